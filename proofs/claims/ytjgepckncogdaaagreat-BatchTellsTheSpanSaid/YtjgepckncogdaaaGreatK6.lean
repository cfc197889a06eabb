/- Contracts of functions, walks, plain facts. Conditions: those of each theorem. -/
import Derived.Test.YtjgepckncogdaaaGreatK5
set_option linter.unusedVariables false
set_option linter.unusedSimpArgs false
set_option maxRecDepth 100000
set_option maxHeartbeats 16000000
namespace Go.Proofs.YtjgepckncogdaaaGreat
open Go Go.RowKit _root_.Go.Proofs.Tryz
attribute [local go_sem ↓] Go.wp_at_zero Go.wp_at_succ
def leavesL (seed:Bs) (n:Nat):List Bs:=(List.range n).map (otPublic seed)
theorem leavesL_len (seed:Bs) (n:Nat):(leavesL seed n).length=n:=by simp[leavesL]
theorem leavesL_succ (seed:Bs) (n:Nat):leavesL seed (n+1)=leavesL seed n++[otPublic seed n]:=by simp[leavesL,List.range_succ]
theorem leavesL_el (seed:Bs) (n:Nat):∀l∈leavesL seed n,l.length=16:=by
 intro l hl;obtain⟨i,_,rfl⟩:=List.mem_map.1 hl;exact short_len _
def GivesL (ls:List Bs) (w:World) (e:Ending) (w':World):Prop:=∃v,e=.returned v/\OwnL w' w.heap.size v ls/\Below w.heap.size w w'
theorem wrap_pow (h:Nat) (hh:h<=6):wrap64 ((2:Int) ^ h)=((2 ^ h:Nat):Int):=by
 rcases (by omega:h=0\/h=1\/h=2\/h=3\/h=4\/h=5\/h=6) with rfl|rfl|rfl|rfl|rfl|rfl|rfl
 all_goals decide +kernel
theorem pow_le64 (h:Nat) (hh:h<=6):1<=2 ^ h/\2 ^ h<=64:=by
 rcases (by omega:h=0\/h=1\/h=2\/h=3\/h=4\/h=5\/h=6) with rfl|rfl|rfl|rfl|rfl|rfl|rfl
 all_goals decide
theorem rleaves_any (B:Nat) (u:Value) (seed:Bs) (h:Nat) (w:World) (hu:SeesB w B u seed) (hB:B<=w.heap.size) (hl:seed.length=32) (hh:h<=6) :
 Calls prog 135 #[u,.int .i64 (h:Int)] w (GivesL (leavesL seed (2 ^ h)) w):=by
 obtain⟨A,c,rfl,hc1,hc2⟩:=hu.mk_;rw[hl] at hc1 hu ⊢;replace hl:=lhd hl;have hsh:=wrap_pow h hh;obtain⟨n1,n2⟩:=pow_le64 h hh;have m0:IntKind.u64.wrap (h:Int)=(h:Int):=by rw[IntKind.wrap_u64];omega
 generalize 2 ^ h=n at *;replace hu:=lhd hu
 go_enter func135,ntmps135
 go_wp2_with fail
 go_loopw [5,6,7,8] (fun v t _ _ wr=>∃k:Nat,k<=n/\t=.int .i64 k/\Hid (OwnL wr w.heap.size v (leavesL seed k))/\Hid (Below w.heap.size w wr)) (fun _ t _ _ _=>n - (intOf t).toNat)
 case atStart=>exact⟨0,by omega,rfl,OwnL.nil _ _,Below.refl _ _⟩
 case round=>
  obtain⟨k,hk,rfl,ho,hb⟩:=hrel
  by_cases hlt:k<n
  ·have hpb:=rotpublic_any B _ seed (k:Int) wr (hu.out.below (hb.out.mono hB)) (Nat.le_trans hB hb.out.size)
   have hoc:otC seed (k:Int)=0:=by simp[otC,hl.out];omega
   unfold PubPost pubL at hpb;rw[hoc,if_pos rfl,xnc] at hpb;replace hpb:=lhd hpb;have hst:=lhd (leavesL_succ seed k);have hrow:Hid ((leavesL seed k).length<=64):=by show _<=_;rw[leavesL_len];omega
   generalize leavesL seed k=row at *;generalize otPublic seed k=l at *;clear hoc;have i0:(0:Int)<=(k:Int):=by omega
   have i1:(k:Int)<(n:Int):=by omega
   obtain⟨Ar,cr,rfl⟩:=ho.out.shape
   go_wp2_with fail
   refine hpb.out.mono ?_;rintro e w2 ⟨v2,rfl,h2,hb2,hf2⟩;have ho2:=ho.out.below hb2;have hel:=Elt.of_from (v:=.slice Ar row.length cr) h2 hf2 (fun k hk=>(ho.out.lt k hk).2);obtain⟨A2,c2,rfl,-,-⟩:=h2.mk_;replace hb:=lhd (bgo hb.out hb2);have hal:=balloc w2 (.cells #[.slice A2 l.length c2] 25);have hcell:=lhd (one_cell w2 (.slice A2 l.length c2) 25);replace ho2:=lhd (ho2.below hal);replace hel:=lhd (hel.below hal);have hb3:=lhd (bgo hb.out hal);clear hb2 hpb ho h2 hf2 hal hb;dsimp only
   go_wp2_with (at_builtin;refine wpList_appL (by rfl) _ _ 30 underlying30 rfl w.heap.size _ row rfl ho2.out _ _ _ l rfl hcell.out hel.out (by have:=hrow.out;omega) hb3.out.size ?_)
   intro v' w' hW2 hb4;have hW2:=lhd hW2;have hb4:=lhd hb4
   go_wp2_with fail
   go_roundw
   case rel=>exact⟨k+1,by omega,by go_num,by rw[hst.out];exact hW2.out,hb3.out.trans hb4.out⟩
   case measure=>simp[intOf];omega
  have hkn:k=n:=by omega
  rw[hkn] at ho;replace hkn:=lhd hkn
  go_wp2_with fail
  go_ret
  exact⟨_,rfl,ho.out,hb.out⟩
def digA (d:Bs):List Nat:=d.flatMap fun x=>[x.toNat / 16,x.toNat % 16]
def sumD (l:List Nat):Nat:=(l.map fun x=>15 - x).sum
def digs (d:Bs):List Nat:=digA d++[sumD (digA d) / 256,sumD (digA d) / 16 % 16,sumD (digA d) % 16]
theorem digA_len (d:Bs):(digA d).length=2 * d.length:=by
 induction d with
 | nil=>rfl
 | cons x d ih=>simp only[digA,List.flatMap_cons,xla,xlc,List.length_nil] at ih ⊢;omega
theorem digs_len (d:Bs):(digs d).length=2 * d.length+3:=by simp[digs,digA_len]
theorem digA_lt (d:Bs):∀x∈digA d,x<16:=by
 intro x hx;obtain⟨y,_,hy⟩:=List.mem_flatMap.1 hx
 have:=y.toNat_lt
 simp only[List.mem_cons,List.not_mem_nil,or_false] at hy
 omega
theorem sumD_le (l:List Nat):sumD l<=15 * l.length:=by
 induction l with
 | nil=>simp[sumD]
 | cons x l ih=>simp only[sumD,xmp,List.sum_cons,xlc] at ih ⊢;omega
theorem sumD_snoc (l:List Nat) (x:Nat):sumD (l++[x])=sumD l+(15 - x):=by simp[sumD]
theorem digs_lt (d:Bs) (h:d.length=16):∀x∈digs d,x<16:=by
 intro x hx;have h1:=sumD_le (digA d);rw[digA_len,h] at h1;rcases List.mem_append.1 hx with hx|hx
 ·exact digA_lt d x hx
 simp only[List.mem_cons,List.not_mem_nil,or_false] at hx
 omega
theorem digA_take (d:Bs) (k:Nat) (h:k<d.length):digA (d.take (k+1))=digA (d.take k)++[(d.getD k 0).toNat / 16]++[(d.getD k 0).toNat % 16]:=by
 rw[List.take_succ_eq_append_getElem h,digA,List.flatMap_append,xgd,xge h];simp[digA]
def vi (l:List Nat):List Value:=l.map fun (n:Nat)=>.int .i64 (n:Int)
theorem vi_len (l:List Nat):(vi l).length=l.length:=by simp[vi]
theorem vi_append (a b:List Nat):vi (a++b)=vi a++vi b:=by simp[vi]
theorem vi_one (l:List Nat):∀u∈vi l,u.oneCell'=true:=by
 intro u hu;obtain⟨x,_,rfl⟩:=List.mem_map.1 hu
 rfl
def SeesI (w:World) (B:Nat) (v:Value) (l:List Nat):Prop:=Sees w B v 1 l.length (vi l)
def OwnI (w:World) (base:Nat) (v:Value) (l:List Nat):Prop:=w.ownsRow base 3 1 v l.length (vi l)
theorem OwnI.sees {w:World} {base:Nat} {v:Value} {l:List Nat} (h:OwnI w base v l):SeesI w w.heap.size v l:=Sees.of_own h
theorem OwnI.below {w w':World} {base:Nat} {v:Value} {l:List Nat} (h:OwnI w base v l) (hb:Below w.heap.size w w'):OwnI w' base v l:=own_below h hb
theorem OwnI.mono {w:World} {base base':Nat} {v:Value} {l:List Nat} (h:OwnI w base v l) (hb:base'<=base):OwnI w base' v l:=by
 refine⟨h.1,?_⟩;rcases h.2 with h|⟨g,cap,cur,h1,h2,h3⟩
 ·exact .inl h
 exact .inr ⟨g,cap,cur,h1,by omega,h3⟩
theorem SeesI.mk_ {w:World} {B:Nat} {v:Value} {l:List Nat} (h:SeesI w B v l):∃A c,v=.slice A l.length c/\l.length<=c/\c<=maxLen:=Sees.mk_ h
theorem SeesI.at_ {w:World} {B:Nat} {A:Option Addr} {n c:Nat} {l:List Nat} (h:SeesI w B (.slice A n c) l) (hn:0<l.length):∃b o,A=some ⟨b,o,none⟩/\b<B/\∀j,j<l.length->w.cell? ⟨b,o+j,none⟩=some (.int .i64 ((l.getD j 0:Nat):Int)):=by
 obtain⟨_,A',c',hv,h1,h2,h3⟩:=h;injection hv with e1 e2 e3;subst e1;obtain⟨b,o,e,hb,hc⟩:=h3 hn;refine⟨b,o,e,hb,fun j hj=>hc j _ ?_⟩;rw[vi,xgm,xge hj,Option.map_some,xgd,xge hj]
 rfl
theorem below_grownI {w w':World} {base:Nat} {v:Value} {l:List Nat} (h:OwnI w base v l) (hg:w.grownBy w' v.ownBlock) (hb:base<=w.heap.size):Below base w w':=by
 refine⟨hg.os,hg.tape,hg.output,hg.size,fun k hk=>hg.block k (by omega) (fun e=>?_)⟩
 have:=(h.lt k e.symm).1
 omega
theorem int_info:(prog.info? 3).map (fun i=>(i.zero,i.size,i.bytes))=some (some (.int .i64 0),1,8):=by kernel_rfl
theorem wpList_appI {ops:Array Oper} {rest:List Oper} {o:Oper} {a:Act} {w:World} {Q:Exit->Act->World->Prop} (hgd:Region.wanted o (yielded ops a.tmps)=true) (s x:Operand)
 (ho:o.op=.call { callee:=.builtin .append,args:=#[s,x],argTypes:=#[55,55] })
 (base:Nat) (v:Value) (l:List Nat) (hs:a.eval s=v) (hown:OwnI w base v l) (B:Nat) (u:Value) (m:List Nat) (hx:a.eval x=u) (hr:SeesI w B u m)
 (hlen:l.length+m.length<=1099511627776) (hbase:base<=w.heap.size)
 (h:∀v' w',OwnI w' base v' (l++m)->Below base w w'->wpList prog ops Q rest (a.put o.dst v') w'):wpList prog ops Q (o :: rest) a w:=by
 obtain⟨i,hi,hz,hsz,hby⟩:=info_parts int_info;refine wpList_append_sees hgd s x 55 ho base 3 i (.int .i64 0) 1 8 underlying55 hi hz hsz hby rfl (by omega) v l.length (vi l) hs hown B u m.length (vi m) hx hr (vi_one m) (by unfold maxLen;omega) (by omega) hbase ?_;intro v' w' h1 h2 h3;refine h v' w' ?_ (below_grownI hown h2 hbase);unfold OwnI;rw[vi_append,xla];exact h1
theorem lit_ints (w:World) (l:List Nat) (hl:l.length<=16):SeesI (w.alloc (.cells (vi l).toArray 3)) (w.heap.size+1) (.slice (some ⟨w.heap.size,0,none⟩) l.length l.length) l:=by
 refine⟨by rw[vi_len,Nat.mul_one],_,l.length,rfl,Nat.le_refl _,by unfold maxLen;omega,fun _=>⟨w.heap.size,0,rfl,by omega,fun j u hj=>?_⟩⟩
 have:=(Box.new w 3 (vi l)).cell j
 rw[Nat.zero_add,this,hj]
theorem lit_int1 (w:World) (p:Nat):SeesI (w.alloc (.cells #[.int .i64 (p:Int)] 3)) (w.heap.size+1) (.slice (some ⟨w.heap.size,0,none⟩) 1 1) [p]:=lit_ints w [p] (by simp)
theorem lit_int2 (w:World) (p q:Nat):SeesI (w.alloc (.cells #[.int .i64 (p:Int),.int .i64 (q:Int)] 3)) (w.heap.size+1) (.slice (some ⟨w.heap.size,0,none⟩) 2 2) [p,q]:=lit_ints w [p,q] (by simp)
theorem lit_int3 (w:World) (p q r:Nat):SeesI (w.alloc (.cells #[.int .i64 (p:Int),.int .i64 (q:Int),.int .i64 (r:Int)] 3)) (w.heap.size+1) (.slice (some ⟨w.heap.size,0,none⟩) 3 3) [p,q,r]:=lit_ints w [p,q,r] (by simp)
theorem make_35 (W:World):(Instr.makeSlice 55 (.int .i64 0) (.int .i64 35)).run prog W=.ok (.slice (some ⟨W.heap.size,0,none⟩) 0 35) (W.alloc (.cells (madeCells #[.int .i64 0] 35) 3)):=by
 obtain⟨i,hi,hz,hs,hb⟩:=info_parts int_info;have h:=run_make (P:=prog) W 55 3 i (.int .i64 0) underlying55 hi hz .i64 .i64 0 35 (by omega) (by omega) (by rw[hb];omega) (by omega);rw[h,hs]
 rfl
theorem and15_u8:∀n:Fin 256,bits .and .u8 (n.val:Int) 15=((n.val % 16:Nat):Int):=by decide +kernel
theorem and15_i64:∀n:Fin 512,bits .and .i64 (n.val:Int) 15=((n.val % 16:Nat):Int):=by decide +kernel
theorem and_u8 (x:UInt8):bits .and .u8 (x.toNat:Int) 15=((x.toNat % 16:Nat):Int):=and15_u8 ⟨x.toNat,x.toNat_lt⟩
theorem and_i64 (n:Nat) (hn:n<512):bits .and .i64 (n:Int) 15=((n % 16:Nat):Int):=and15_i64 ⟨n,hn⟩
def DigPost (d:Bs) (w:World) (e:Ending) (w':World):Prop:=
 ∃v,e=.returned (.tuple #[v,.int .i64 0])/\OwnI w' w.heap.size v (digs d)/\Below w.heap.size w w'
theorem digits_any (B:Nat) (u:Value) (d:Bs) (w:World) (hu:SeesB w B u d) (hB:B<=w.heap.size) (hl:d.length=16) :
 Calls prog 205 #[u] w (DigPost d w):=by
 obtain⟨A,c,rfl,hc1,hc2⟩:=hu.mk_;rw[hl] at hc1 hu ⊢;have hmk:=make_35;obtain⟨b,o,rfl,hbB,hcell⟩:=hu.at_ (by omega);replace hl:=lhd hl;replace hcell:=lhd hcell;replace hbB:=lhd hbB;clear hu
 go_enter func205,ntmps205
 go_wp2_with fail
 refine wp_fresh (fun W=>OwnI W w.heap.size (.slice (some ⟨w.heap.size,0,none⟩) 0 35) []/\Below w.heap.size w W) ⟨World.ownsRow_made w _ 35 nlr (by unfold maxLen;omega) (size_madeCells _ _),balloc w _⟩ ?_;rintro W0 ⟨ho,hb⟩;replace ho:=lhd ho;replace hb:=lhd hb;clear hmk
 go_loopw [4,5,7,9,17,28] (fun v s _ _ t _ wr=>∃k:Nat,k<=16/\t=.int .i64 k/\Hid (OwnI wr w.heap.size v (digA (d.take k)))/\s=.int .i64 ((sumD (digA (d.take k)):Nat):Int)/\Hid (Below w.heap.size w wr)) (fun _ _ _ _ t _ _=>16 - (intOf t).toNat)
 case atStart=>exact⟨0,by omega,rfl,ho,rfl,hb⟩
 case round=>
  clear ho hb;obtain⟨k,hk,rfl,ho,rfl,hb⟩:=hrel
  by_cases hlt:k<16
  ·have x0:=(hb.out.cell (p:=⟨b,o+k,none⟩) (Nat.lt_of_lt_of_le hbB.out hB)).trans (hcell.out k (by rw[hl.out];exact hlt))
   have hst:=lhd (digA_take d k (by rw[hl.out];exact hlt));have hsl:=sumD_le (digA (d.take k));rw[digA_len,xlt] at hsl;have hal:Hid ((digA (d.take k)).length<=32):=by show _<=_;rw[digA_len,xlt];omega
   generalize digA (d.take k)=acc at *;generalize d.getD k 0=x at *;have hx:=x.toNat_lt;unfold byV at x0;have ha:=and_u8 x;have i0:(0:Int)<=(k:Int):=by omega
   have i1:(k:Int)<16:=by omega
   go_wp2_with fail
   rw[show ((x.toNat:Int) / 16)=((x.toNat / 16:Nat):Int) from rfl,show ((x.toNat:Int) % 16)=((x.toNat % 16:Nat):Int) from rfl];obtain⟨wo,rfl⟩:∃wo:World,wo=wr:=⟨_,rfl⟩
   have hp:x.toNat / 16<16:=by omega
   have hq:x.toNat % 16<16:=by omega
   generalize x.toNat / 16=p at *;generalize x.toNat % 16=q at *;have e0:∀W,(Instr.index 282 (.agg #[.int .i64 (p:Int),.int .i64 (q:Int)]) (.int .i64 0)).run prog W=.ok (.int .i64 (p:Int)) W:=fun _=>by kernel_rfl
   have e1:∀W,(Instr.index 282 (.agg #[.int .i64 (p:Int),.int .i64 (q:Int)]) (.int .i64 1)).run prog W=.ok (.int .i64 (q:Int)) W:=fun _=>by kernel_rfl
   have hs1:=lhd (sumD_snoc acc p);have hs2:=lhd (sumD_snoc (acc++[p]) q);clear ha x0 hx
   go_loopw [4,5,9,28] (fun v s _ t wr=>∃j:Nat,j<=2/\t=.int .i64 j/\Hid (OwnI wr w.heap.size v (acc++[p,q].take j))/\s=.int .i64 ((sumD (acc++[p,q].take j):Nat):Int)/\Hid (Below w.heap.size w wr)) (fun _ _ _ t _=>2 - (intOf t).toNat)
   case atStart=>exact⟨0,by omega,rfl,by rw[List.take_zero,List.append_nil];exact ho,by rw[List.take_zero,List.append_nil],hb⟩
   case round=>
    clear ho hb;obtain⟨j,hj,rfl,ho,rfl,hb⟩:=hrel;obtain⟨Ar,cr,rfl,-,-⟩:=ho.out.sees.mk_;rcases (by omega:j=0\/j=1\/j=2) with rfl|rfl|rfl
    ·rw[List.take_zero,List.append_nil] at ho ⊢
     have hal2:=balloc wr (.cells #[.int .i64 (p:Int)] 3);have ho2:=lhd (ho.out.below hal2);have hcl:=lhd (lit_int1 wr p);have hb2:=lhd (hb.out.trans (hal2.mono hb.out.size));clear ho hb hal2
     go_wp2_with (at_builtin;refine wpList_appI (by rfl) _ _ rfl w.heap.size _ acc rfl ho2.out _ _ [p] rfl hcl.out (by have:=hal.out;simp;omega) hb2.out.size ?_)
     intro v' w' hW2 hb4;have hW2:=lhd hW2;have hb4:=lhd (hb2.out.trans hb4)
     go_wp2_with fail
     go_roundw
     case rel=>exact⟨1,by omega,by go_num,hW2.out,by rw[show acc++List.take 1 [p,q]=acc++[p] from rfl,hs1.out];go_num,hb4⟩
     case measure=>simp[intOf]
    ·have hal2:=balloc wr (.cells #[.int .i64 (q:Int)] 3)
     have ho2:=lhd (ho.out.below hal2);have hcl:=lhd (lit_int1 wr q);have hb2:=lhd (hb.out.trans (hal2.mono hb.out.size));rw[show acc++List.take 1 [p,q]=acc++[p] from rfl] at ho2 ⊢;rw[hs1.out];have hl1:(acc++List.take 1 [p,q]).length=acc.length+1:=by simp
     clear ho hb hal2
     go_wp2_with (at_builtin;refine wpList_appI (by rfl) _ _ rfl w.heap.size _ (acc++[p]) rfl ho2.out _ _ [q] rfl hcl.out (by have:=hal.out;simp;omega) hb2.out.size ?_)
     intro v' w' hW2 hb4;have hW2:=lhd hW2;have hb4:=lhd (hb2.out.trans hb4)
     go_wp2_with fail
     go_roundw
     case rel=>exact⟨2,by omega,by go_num,by have:=hW2.out;show OwnI _ _ _ _;simpa using this,by rw[show acc++List.take 2 [p,q]=acc++[p]++[q] by simp,hs2.out,hs1.out];go_num,hb4⟩
     case measure=>simp[intOf]
    rw[show acc++List.take 2 [p,q]=acc++[p]++[q] by simp,<-hst.out] at ho ⊢
    go_wp2_with fail
    go_roundw
    case rel=>exact⟨k+1,by omega,by go_num,ho,rfl,hb⟩
    case measure=>simp[intOf];omega
  have hk16:k=16:=by omega
  have hds:Hid (digs d=digA d++[sumD (digA d) / 256 % 16,sumD (digA d) / 16 % 16,sumD (digA d) % 16]):=by
   have h1:=sumD_le (digA d);rw[digA_len,hl.out] at h1;show _=_;rw[digs,Nat.mod_eq_of_lt (a:=sumD (digA d) / 256) (by omega)]
  have hS:=sumD_le (digA d);rw[digA_len,hl.out] at hS;have hal:Hid ((digA d).length<=32):=by show _<=_;rw[digA_len,hl.out];omega
  rw[hk16,xtl (by rw[hl.out];omega)] at ho;rw[xtl (by rw[hl.out];omega)];generalize digA d=acc at *;generalize hSS:sumD acc=S at *;replace hSS:=lhd hSS;replace hk16:=lhd hk16;have s2:bits .and .i64 ((S:Int) / 256) 15=((S / 256 % 16:Nat):Int):=and_i64 (S / 256) (by omega);have s1:bits .and .i64 ((S:Int) / 16) 15=((S / 16 % 16:Nat):Int):=and_i64 (S / 16) (by omega);have s0:=and_i64 S (by omega);generalize S / 256 % 16=a2 at *;generalize S / 16 % 16=a1 at *;generalize S % 16=a0 at *
  go_wp2_with fail
  obtain⟨wo,rfl⟩:∃wo:World,wo=wr:=⟨_,rfl⟩
  go_loopw [4,10] (fun v t wr=>∃j:Nat,j<=3/\t=.int .i64 (2 - (j:Int))/\Hid (OwnI wr w.heap.size v (acc++[a2,a1,a0].take j))/\Hid (Below w.heap.size w wr)) (fun _ t _=>(1+intOf t).toNat)
  case atStart=>exact⟨0,by omega,rfl,by rw[List.take_zero,List.append_nil];exact ho,hb⟩
  case round=>
   clear ho hb;obtain⟨j,hj,rfl,ho,hb⟩:=hrel;obtain⟨Ar,cr,rfl,-,-⟩:=ho.out.sees.mk_;rcases (by omega:j=0\/j=1\/j=2\/j=3) with rfl|rfl|rfl|rfl
   ·rw[List.take_zero,List.append_nil] at ho ⊢
    have hal2:=balloc wr (.cells #[.int .i64 (a2:Int)] 3);have ho2:=lhd (ho.out.below hal2);have hcl:=lhd (lit_int1 wr a2);have hb2:=lhd (hb.out.trans (hal2.mono hb.out.size));clear ho hb hal2
    go_wp2_with (at_builtin;refine wpList_appI (by rfl) _ _ rfl w.heap.size _ acc rfl ho2.out _ _ [a2] rfl hcl.out (by have:=hal.out;simp;omega) hb2.out.size ?_)
    intro v' w' hW2 hb4;have hW2:=lhd hW2;have hb4:=lhd (hb2.out.trans hb4)
    go_wp2_with fail
    go_roundw
    case rel=>exact⟨1,by omega,by simp,by have:=hW2.out;show OwnI _ _ _ _;simpa using this,hb4⟩
    case measure=>simp[intOf]
   ·rw[show acc++List.take 1 [a2,a1,a0]=acc++[a2] from rfl] at ho ⊢
    have hal2:=balloc wr (.cells #[.int .i64 (a1:Int)] 3);have ho2:=lhd (ho.out.below hal2);have hcl:=lhd (lit_int1 wr a1);have hb2:=lhd (hb.out.trans (hal2.mono hb.out.size));clear ho hb hal2
    go_wp2_with (at_builtin;refine wpList_appI (by rfl) _ _ rfl w.heap.size _ (acc++[a2]) rfl ho2.out _ _ [a1] rfl hcl.out (by have:=hal.out;simp;omega) hb2.out.size ?_)
    intro v' w' hW2 hb4;have hW2:=lhd hW2;have hb4:=lhd (hb2.out.trans hb4)
    go_wp2_with fail
    go_roundw
    case rel=>exact⟨2,by omega,by simp,by have:=hW2.out;show OwnI _ _ _ _;simpa using this,hb4⟩
    case measure=>simp[intOf]
   ·rw[show acc++List.take 2 [a2,a1,a0]=acc++[a2,a1] from rfl] at ho ⊢
    have hal2:=balloc wr (.cells #[.int .i64 (a0:Int)] 3);have ho2:=lhd (ho.out.below hal2);have hcl:=lhd (lit_int1 wr a0);have hb2:=lhd (hb.out.trans (hal2.mono hb.out.size));clear ho hb hal2
    go_wp2_with (at_builtin;refine wpList_appI (by rfl) _ _ rfl w.heap.size _ (acc++[a2,a1]) rfl ho2.out _ _ [a0] rfl hcl.out (by have:=hal.out;simp;omega) hb2.out.size ?_)
    intro v' w' hW2 hb4;have hW2:=lhd hW2;have hb4:=lhd (hb2.out.trans hb4)
    go_wp2_with fail
    go_roundw
    case rel=>exact⟨3,by omega,by simp,by have:=hW2.out;show OwnI _ _ _ _;simpa using this,hb4⟩
    case measure=>simp[intOf]
   rw[show acc++List.take 3 [a2,a1,a0]=acc++[a2,a1,a0] from rfl] at ho ⊢;generalize acc++[a2,a1,a0]=row at *
   go_wp2_with fail
   go_returns
   exact⟨_,rfl,by rw[hds.out];exact ho.out,hb.out⟩
theorem rdigits_any (B:Nat) (u:Value) (d:Bs) (w:World) (hu:SeesB w B u d) (hB:B<=w.heap.size) (hl:d.length=16) :
 Calls prog 243 #[u] w (DigPost d w):=by
 obtain⟨A,c,rfl,hc1,hc2⟩:=hu.mk_;rw[hl] at hc1 hu ⊢;obtain⟨b,o,rfl,hbB,hcell⟩:=hu.at_ (by omega);replace hl:=lhd hl;replace hcell:=lhd hcell;replace hbB:=lhd hbB;clear hu
 go_enter func243,ntmps243
 go_wp2_with fail
 go_loopw [4,5,6,7,8] (fun v s t _ _ wr=>∃k:Nat,k<=16/\t=.int .i64 k/\Hid (OwnI wr w.heap.size v (digA (d.take k)))/\s=.int .i64 ((sumD (digA (d.take k)):Nat):Int)/\Hid (Below w.heap.size w wr)) (fun _ _ t _ _ _=>16 - (intOf t).toNat)
 case atStart=>exact⟨0,by omega,rfl,World.ownsRow_nil w _ _ _,rfl,Below.refl _ _⟩
 case round=>
  obtain⟨k,hk,rfl,ho,rfl,hb⟩:=hrel
  by_cases hlt:k<16
  ·have x0:=(hb.out.cell (p:=⟨b,o+k,none⟩) (Nat.lt_of_lt_of_le hbB.out hB)).trans (hcell.out k (by rw[hl.out];exact hlt))
   have hst:=lhd (digA_take d k (by rw[hl.out];exact hlt));have hsl:=sumD_le (digA (d.take k));rw[digA_len,xlt] at hsl;have hal:Hid ((digA (d.take k)).length<=32):=by show _<=_;rw[digA_len,xlt];omega
   generalize digA (d.take k)=acc at *;generalize d.getD k 0=x at *;have hx:=x.toNat_lt;unfold byV at x0;have ha:=and_u8 x;have i0:(0:Int)<=(k:Int):=by omega
   have i1:(k:Int)<16:=by omega
   go_wp2_with fail
   go_quiet (fail)
   rw[show ((x.toNat:Int) / 16)=((x.toNat / 16:Nat):Int) from rfl,show ((x.toNat:Int) % 16)=((x.toNat % 16:Nat):Int) from rfl];have hp:x.toNat / 16<16:=by omega
   have hq:x.toNat % 16<16:=by omega
   have hs1:=lhd (sumD_snoc acc (x.toNat / 16));have hs2:=lhd (sumD_snoc (acc++[x.toNat / 16]) (x.toNat % 16));generalize x.toNat / 16=p at *;generalize x.toNat % 16=q at *;clear ha x0 hx;obtain⟨Ar,cr,rfl,-,-⟩:=ho.out.sees.mk_;have hal2:=balloc (wr.drewN nq) (.cells #[.int .i64 (p:Int),.int .i64 (q:Int)] 3);have hbd:=below_drewN hb.out nq;have ho2:=lhd (OwnI.below (w:=wr.drewN nq) ho.out hal2);have hcl:=lhd (lit_int2 (wr.drewN nq) p q);have hb2:=lhd (hbd.trans (hal2.mono hbd.size));clear ho hb hal2 hbd
   go_wp2_with (at_builtin;refine wpList_appI (by rfl) _ _ rfl w.heap.size _ acc rfl ho2.out _ _ [p,q] rfl hcl.out (by have:=hal.out;simp;omega) hb2.out.size ?_)
   intro v' w' hW2 hb4;have hW2:=lhd hW2;have hb4:=lhd (hb2.out.trans hb4)
   go_wp2_with fail
   go_roundw
   case rel=>exact⟨k+1,by omega,by go_num,by rw[hst.out];have:=hW2.out;show OwnI _ _ _ _;simpa using this,by rw[hst.out,hs2.out,hs1.out];go_num,hb4⟩
   case measure=>simp[intOf];omega
  have hk16:k=16:=by omega
  have hS:=sumD_le (digA d);rw[digA_len,hl.out] at hS;have hal:Hid ((digA d).length<=32):=by show _<=_;rw[digA_len,hl.out];omega
  rw[hk16,xtl (by rw[hl.out];omega)] at ho;rw[xtl (by rw[hl.out];omega)];have hds:Hid (digs d=digA d++[sumD (digA d) / 256,sumD (digA d) / 16 % 16,sumD (digA d) % 16]):=rfl;generalize digA d=acc at *;generalize hSS:sumD acc=S at *;replace hSS:=lhd hSS;replace hk16:=lhd hk16;have s2:(S:Int) / 256=((S / 256:Nat):Int):=rfl;have s1:(S:Int) / 16 % 16=((S / 16 % 16:Nat):Int):=rfl;have s0:(S:Int) % 16=((S % 16:Nat):Int):=rfl;generalize S / 256=a2 at *;generalize S / 16 % 16=a1 at *;generalize S % 16=a0 at *;obtain⟨Ar,cr,rfl,-,-⟩:=ho.out.sees.mk_;have hal2:=balloc wr (.cells #[.int .i64 (a2:Int),.int .i64 (a1:Int),.int .i64 (a0:Int)] 3);have ho2:=lhd (OwnI.below ho.out hal2);have hcl:=lhd (lit_int3 wr a2 a1 a0);have hb2:=lhd (hb.out.trans (hal2.mono hb.out.size));clear ho hb hal2
  go_wp2_with (at_builtin;refine wpList_appI (by rfl) _ _ rfl w.heap.size _ acc rfl ho2.out _ _ [a2,a1,a0] rfl hcl.out (by have:=hal.out;simp;omega) hb2.out.size ?_)
  intro v' w' hW2 hb4;have hW2:=lhd hW2;have hb4:=lhd (hb2.out.trans hb4)
  go_wp2_with fail
  go_returns
  exact⟨_,rfl,by rw[hds.out];exact hW2.out,hb4.out⟩
def pathG (hs:List Bs) (i:Nat):List Bs:=
 if h:2<=hs.length then
  if i<splitN hs.length then pathG (hs.take (splitN hs.length)) i++[rootG (hs.drop (splitN hs.length))]
  else pathG (hs.drop (splitN hs.length)) (i - splitN hs.length)++[rootG (hs.take (splitN hs.length))]
 else []
termination_by hs.length
decreasing_by
 ·have:=splitN_lt hs.length h;rw[xlt];omega
 have:=splitN_lt hs.length h;rw[xld];omega
def climbG (n i:Nat) (at_:Bs) (p:List Bs):Option (Bs × Nat):=
 if h:2<=n then
  if i<splitN n then
   match climbG (splitN n) i at_ p with
   | none=>none
   | some (r,used)=>if used<p.length then some (nodeH r (p.getD used []),used+1) else none
  else
   match climbG (n - splitN n) (i - splitN n) at_ p with
   | none=>none
   | some (r,used)=>if used<p.length then some (nodeH (p.getD used []) r,used+1) else none
 else some (at_,0)
termination_by n
decreasing_by
 ·have:=splitN_lt n h;omega
 have:=splitN_lt n h;omega
theorem pathG_one (hs:List Bs) (i:Nat) (h:¬2<=hs.length):pathG hs i=[]:=by rw[pathG,dif_neg h]
theorem pathG_left (hs:List Bs) (i:Nat) (h:2<=hs.length) (hi:i<splitN hs.length):pathG hs i=pathG (hs.take (splitN hs.length)) i++[rootG (hs.drop (splitN hs.length))]:=by rw[pathG,dif_pos h,if_pos hi]
theorem pathG_right (hs:List Bs) (i:Nat) (h:2<=hs.length) (hi:¬i<splitN hs.length):pathG hs i=pathG (hs.drop (splitN hs.length)) (i - splitN hs.length)++[rootG (hs.take (splitN hs.length))]:=by rw[pathG,dif_pos h,if_neg hi]
theorem climbG_one (n i:Nat) (a:Bs) (p:List Bs) (h:¬2<=n):climbG n i a p=some (a,0):=by rw[climbG,dif_neg h]
theorem climbG_left (n i:Nat) (a:Bs) (p:List Bs) (h:2<=n) (hi:i<splitN n):climbG n i a p=match climbG (splitN n) i a p with
 | none=>none
 | some (r,used)=>if used<p.length then some (nodeH r (p.getD used []),used+1) else none:=by rw[climbG,dif_pos h,if_pos hi]
theorem climbG_right (n i:Nat) (a:Bs) (p:List Bs) (h:2<=n) (hi:¬i<splitN n):climbG n i a p=match climbG (n - splitN n) (i - splitN n) a p with
 | none=>none
 | some (r,used)=>if used<p.length then some (nodeH (p.getD used []) r,used+1) else none:=by rw[climbG,dif_pos h,if_neg hi]
theorem climbG_used (m:Nat):∀(n i:Nat) (a:Bs) (p:List Bs) (r:Bs) (u:Nat),n<=m->climbG n i a p=some (r,u)->u<=p.length:=by
 induction m with
 | zero=>
   intro n i a p r u hn h;rw[climbG_one _ _ _ _ (by omega)] at h;cases h;omega
 | succ m ih=>
   intro n i a p r u hn h
   by_cases h2:2<=n
   ·have hs:=splitN_lt n h2
    by_cases hi:i<splitN n
    ·rw[climbG_left _ _ _ _ h2 hi] at h
     split at h
     ·cases h
     split at h
     ·cases h;omega
     cases h
    rw[climbG_right _ _ _ _ h2 hi] at h
    split at h
    ·cases h
    split at h
    ·cases h;omega
    cases h
   rw[climbG_one _ _ _ _ h2] at h;cases h;omega
theorem climbG_len (m:Nat):∀(n i:Nat) (a:Bs) (p:List Bs) (r:Bs) (u:Nat),n<=m->climbG n i a p=some (r,u)->r=a\/r.length=32:=by
 induction m with
 | zero=>
   intro n i a p r u hn h;rw[climbG_one _ _ _ _ (by omega)] at h;cases h;exact .inl rfl
 | succ m ih=>
   intro n i a p r u hn h
   by_cases h2:2<=n
   ·have hs:=splitN_lt n h2
    by_cases hi:i<splitN n
    ·rw[climbG_left _ _ _ _ h2 hi] at h
     split at h
     ·cases h
     split at h
     ·cases h;exact .inr (sha_len _)
     cases h
    rw[climbG_right _ _ _ _ h2 hi] at h
    split at h
    ·cases h
    split at h
    ·cases h;exact .inr (sha_len _)
    cases h
   rw[climbG_one _ _ _ _ h2] at h;cases h;exact .inl rfl
theorem climb_path (m:Nat):∀(hs:List Bs) (i:Nat) (more:List Bs),hs.length<=m->i<hs.length ->
 climbG hs.length i (hs.getD i []) (pathG hs i++more)=some (rootG hs,(pathG hs i).length):=by
 induction m with
 | zero=>intro hs i more h hi;omega
 | succ m ih=>
   intro hs i more hm hi
   by_cases h2:2<=hs.length
   ·have hsp:=splitN_lt hs.length h2
    by_cases hk:i<splitN hs.length
    ·have h1:=ih (hs.take (splitN hs.length)) i ([rootG (hs.drop (splitN hs.length))]++more) (by rw[xlt];omega) (by rw[xlt];omega)
     rw[xlt,Nat.min_eq_left (by omega)] at h1;rw[show (hs.take (splitN hs.length)).getD i []=hs.getD i [] from by rw[xgd,List.getElem?_take,if_pos hk,<-xgd]] at h1;rw[pathG_left hs i h2 hk,climbG_left _ _ _ _ h2 hk,xaa,h1];simp only;rw[if_pos (by simp),rootG_two hs h2];simp
    have h1:=ih (hs.drop (splitN hs.length)) (i - splitN hs.length) ([rootG (hs.take (splitN hs.length))]++more) (by rw[xld];omega) (by rw[xld];omega);rw[xld] at h1;rw[show (hs.drop (splitN hs.length)).getD (i - splitN hs.length) []=hs.getD i [] from by rw[xgd,List.getElem?_drop,show splitN hs.length+(i - splitN hs.length)=i from by omega,<-xgd]] at h1;rw[pathG_right hs i h2 hk,climbG_right _ _ _ _ h2 hk,xaa,h1];simp only;rw[if_pos (by simp),rootG_two hs h2];simp
   ·rw[pathG_one _ _ h2,climbG_one _ _ _ _ h2]
    match hs,hi,h2 with
    | [x],hi,_=>
      obtain rfl:i=0:=by simp at hi;omega
      rw[rootG_one];rfl
    | x :: y :: l,_,h2=>exact absurd (by simp) h2
theorem pathG_el (m:Nat):∀(hs:List Bs) (i:Nat),hs.length<=m->(∀l∈hs,l.length=32)->∀x∈pathG hs i,x.length=32:=by
 induction m with
 | zero=>intro hs i hm hl x hx;rw[pathG_one _ _ (by omega)] at hx;cases hx
 | succ m ih=>
   intro hs i hm hl x hx
   by_cases h2:2<=hs.length
   ·have hsp:=splitN_lt hs.length h2
    have l1:∀l∈hs.take (splitN hs.length),l.length=32:=fun l h=>hl l (List.mem_of_mem_take h)
    have l2:∀l∈hs.drop (splitN hs.length),l.length=32:=fun l h=>hl l (List.mem_of_mem_drop h)
    by_cases hk:i<splitN hs.length
    ·rw[pathG_left hs i h2 hk] at hx
     rcases List.mem_append.1 hx with hx|hx
     ·exact ih _ i (by rw[xlt];omega) l1 x hx
     obtain rfl:=List.mem_singleton.1 hx;exact rootG_len _ l2
    rw[pathG_right hs i h2 hk] at hx;rcases List.mem_append.1 hx with hx|hx
    ·exact ih _ _ (by rw[xld];omega) l2 x hx
    obtain rfl:=List.mem_singleton.1 hx;exact rootG_len _ l1
   rw[pathG_one _ _ h2] at hx;cases hx
theorem pathG_short (hs:List Bs) (i:Nat):(pathG hs i).length<=hs.length:=by
 have:∀(m:Nat) (hs:List Bs) (i:Nat),hs.length<=m->(pathG hs i).length<=hs.length:=by
  intro m
  induction m with
  | zero=>intro hs i hm;rw[pathG_one _ _ (by omega)];exact Nat.zero_le _
  | succ m ih=>
    intro hs i hm
    by_cases h2:2<=hs.length
    ·have hsp:=splitN_lt hs.length h2
     by_cases hk:i<splitN hs.length
     ·have h1:=ih (hs.take (splitN hs.length)) i (by rw[xlt];omega)
      rw[xlt] at h1;rw[pathG_left hs i h2 hk,xla,xl1];omega
     have h1:=ih (hs.drop (splitN hs.length)) (i - splitN hs.length) (by rw[xld];omega);rw[xld] at h1;rw[pathG_right hs i h2 hk,xla,xl1];omega
    rw[pathG_one _ _ h2];exact Nat.zero_le _
 exact this _ hs i nlr
theorem splitN_pow (h:Nat):splitN (2 ^ (h+1))=2 ^ h:=by
 have h1:1<=2 ^ h:=Nat.pow_pos (by omega);exact splitN_of _ _ (by rw[Nat.pow_succ];omega) (by rw[Nat.pow_succ];omega) (by rw[Nat.pow_succ];omega)
theorem pathG_len (h:Nat):∀(hs:List Bs) (i:Nat),hs.length=2 ^ h->(pathG hs i).length=h:=by
 induction h with
 | zero=>intro hs i hl;rw[pathG_one _ _ (by omega)];rfl
 | succ h ih=>
   intro hs i hl;have h1:1<=2 ^ h:=Nat.pow_pos (by omega);have h2:2<=hs.length:=by rw[hl,Nat.pow_succ];omega
   have hsp:splitN hs.length=2 ^ h:=by rw[hl,splitN_pow]
   by_cases hk:i<splitN hs.length
   ·rw[pathG_left hs i h2 hk,xla,ih _ _ (by rw[xlt,hsp,hl,Nat.pow_succ];omega)];rfl
   rw[pathG_right hs i h2 hk,xla,ih _ _ (by rw[xld,hsp,hl,Nat.pow_succ];omega)];rfl
def signL (seed:Bs) (i:Nat) (d:Bs):List Bs:=(List.range 35).map fun c=>chainH ((digs d).getD c 0) (otBegin seed i c)
def recEnds (d:Bs) (sig:List Bs):Nat->Bs
 | 0=>[]
 | n+1=>recEnds d sig n++chainH (15 - (digs d).getD n 0) (sig.getD n [])
def recG (d:Bs) (sig:List Bs):Bs:=short (recEnds d sig 35)
theorem signL_len (seed:Bs) (i:Nat) (d:Bs):(signL seed i d).length=35:=by simp[signL]
theorem signL_get (seed:Bs) (i:Nat) (d:Bs) (c:Nat) (h:c<35):(signL seed i d).getD c []=chainH ((digs d).getD c 0) (otBegin seed i c):=by
 rw[signL,xgd,xgm,List.getElem?_range h];rfl
theorem signL_el (seed:Bs) (i:Nat) (d:Bs):∀x∈signL seed i d,x.length=16:=by
 intro x hx;obtain⟨c,_,rfl⟩:=List.mem_map.1 hx;exact chainH_len _ _ (short_len _)
theorem digs_get (d:Bs) (h:d.length=16) (c:Nat) (hc:c<35):(digs d).getD c 0<16:=by
 have hl:c<(digs d).length:=by rw[digs_len];omega
 rw[xgd,xge hl];exact digs_lt d h _ (xgx hl)
theorem rec_sign (seed:Bs) (i:Nat) (d:Bs) (h:d.length=16):recG d (signL seed i d)=otPublic seed i:=by
 have:∀n,n<=35->recEnds d (signL seed i d) n=otEnds seed i n:=by
  intro n
  induction n with
  | zero=>intro _;rfl
  | succ n ih=>
    intro hn
    have:=digs_get d h n (by omega)
    rw[recEnds,otEnds,ih (by omega),signL_get _ _ _ _ (by omega),chainH_add,show (digs d).getD n 0+(15 - (digs d).getD n 0)=15 from by omega]
 rw[recG,otPublic,this 35 nlr]
def hashesG (seed:Bs) (h:Nat):List Bs:=(leavesL seed (2 ^ h)).map leafH
def keyG (seed:Bs) (h:Nat):Bs:=rootG (hashesG seed h)
def digG (pub:Bs) (i:Nat) (m:Bs):Bs:=short (pub++putB 4 i++m)
def sigG (seed:Bs) (h i:Nat) (m:Bs):Bs:=
 [UInt8.ofNat h]++putB 4 i++(signL seed i (digG (keyG seed h) i m)).flatten++(pathG (hashesG seed h) i).flatten
def cutL (size:Nat):Nat->Bs->List Bs
 | 0,_=>[]
 | n+1,b=>b.take size :: cutL size n (b.drop size)
theorem cutL_len (size n:Nat) (b:Bs):(cutL size n b).length=n:=by
 induction n generalizing b with
 | zero=>rfl
 | succ n ih=>rw[cutL,xlc,ih]
theorem cutL_el (size n:Nat):∀(b:Bs),b.length=size * n->∀x∈cutL size n b,x.length=size:=by
 induction n with
 | zero=>intro b hb x hx;cases hx
 | succ n ih=>
   intro b hb x hx;rw[Nat.mul_succ] at hb;rcases List.mem_cons.1 hx with rfl|hx
   ·rw[xlt];omega
   exact ih (b.drop size) (by rw[xld];omega) x hx
theorem cutL_flat (size:Nat) (ls:List Bs) (more:Bs) (h:∀x∈ls,x.length=size):cutL size ls.length (ls.flatten++more)=ls:=by
 induction ls with
 | nil=>rfl
 | cons x ls ih=>
   have hx:x.length=size:=h x (by simp);rw[xlc,cutL,xfc,xaa,List.take_append_of_le_length (by omega),xtl (by omega),List.drop_append_of_le_length (by omega),List.drop_of_length_le (by omega),List.nil_append,ih (fun y hy=>h y (by simp[hy]))]
theorem flat_len (size:Nat) (ls:List Bs) (h:∀x∈ls,x.length=size):ls.flatten.length=size * ls.length:=by
 induction ls with
 | nil=>rfl
 | cons x ls ih=>rw[xfc,xla,ih (fun y hy=>h y (by simp[hy])),h x (by simp),xlc,Nat.mul_succ,Nat.add_comm]
structure Sig where
 height:Nat
 index:Nat
 elements:List Bs
 path:List Bs
def partsG (b:Bs):Option Sig:=
 if b.length<565 then none
 else if 6<(b.getD 0 0).toNat\/2 ^ (b.getD 0 0).toNat<=getB ((b.drop 1).take 4)\/b.length≠565+32 * (b.getD 0 0).toNat then none
 else some ⟨(b.getD 0 0).toNat,getB ((b.drop 1).take 4),cutL 16 35 (b.drop 5),cutL 32 (b.getD 0 0).toNat (b.drop 565)⟩
def checkG (root:Bs) (n i:Nat) (leaf:Bs) (p:List Bs):Bool:=
 match climbG n i (leafH leaf) p with
 | none=>false
 | some (r,used)=>decide (used=p.length)&&decide (r=root)
def verifyG (pub m b:Bs):Bool:=
 match partsG b with
 | none=>false
 | some s=>decide (pub.length=32)&&decide (m.length<=65535)&&checkG pub (2 ^ s.height) s.index (recG (digG pub s.index m) s.elements) s.path
theorem hashesG_len (seed:Bs) (h:Nat):(hashesG seed h).length=2 ^ h:=by simp[hashesG,leavesL_len]
theorem hashesG_el (seed:Bs) (h:Nat):∀l∈hashesG seed h,l.length=32:=leafs_len _
theorem keyG_len (seed:Bs) (h:Nat):(keyG seed h).length=32:=rootG_len _ (hashesG_el seed h)
theorem hashesG_get (seed:Bs) (h i:Nat) (hi:i<2 ^ h):(hashesG seed h).getD i []=leafH (otPublic seed i):=by
 rw[hashesG,leavesL,xgd,xgm,xgm,List.getElem?_range hi];rfl
theorem getB_put4 (i:Nat) (h:i<4294967296):getB (putB 4 i)=i:=by
 rw[getB_val,valB_put,show 256 ^ 4=4294967296 from rfl];omega
theorem sigG_len (seed:Bs) (h i:Nat) (m:Bs):(sigG seed h i m).length=565+32 * h:=by
 rw[sigG];simp only[xla,xlc,List.length_nil,putB_len];rw[flat_len 16 _ (signL_el _ _ _),signL_len,flat_len 32 _ (pathG_el _ _ _ nlr (hashesG_el seed h)),pathG_len h _ _ (hashesG_len seed h)]
theorem parts_sig (seed:Bs) (h i:Nat) (m:Bs) (hh:h<=6) (hi:i<2 ^ h) :
 partsG (sigG seed h i m)=some ⟨h,i,signL seed i (digG (keyG seed h) i m),pathG (hashesG seed h) i⟩:=by
 have h64:=pow_le64 h hh;have hl:=sigG_len seed h i m;have e0:(sigG seed h i m).getD 0 0=UInt8.ofNat h:=rfl;have t0:(UInt8.ofNat h).toNat=h:=by simp;omega
 have e1:((sigG seed h i m).drop 1).take 4=putB 4 i:=by
  have:=putB_len 4 i
  rw[sigG,xaa,xaa,List.singleton_append,List.drop_succ_cons,List.drop_zero,List.take_append_of_le_length (by omega),xtl (by omega)]
 have h5:([UInt8.ofNat h]++putB 4 i).length=5:=by simp[putB_len]
 have e2:(sigG seed h i m).drop 5=(signL seed i (digG (keyG seed h) i m)).flatten++(pathG (hashesG seed h) i).flatten:=by
  rw[sigG,xaa,List.drop_append_of_le_length (by omega),List.drop_of_length_le (by omega),List.nil_append]
 have hf:=flat_len 16 _ (signL_el seed i (digG (keyG seed h) i m));rw[signL_len] at hf;have e3:(sigG seed h i m).drop 565=(pathG (hashesG seed h) i).flatten:=by
  rw[show (565:Nat)=5+560 from rfl,<-List.drop_drop,e2,List.drop_append_of_le_length (by omega),List.drop_of_length_le (by omega),List.nil_append]
 have hp:=cutL_flat 32 (pathG (hashesG seed h) i) [] (pathG_el _ _ _ nlr (hashesG_el seed h));rw[pathG_len h _ _ (hashesG_len seed h),List.append_nil] at hp;have hs:=cutL_flat 16 (signL seed i (digG (keyG seed h) i m)) (pathG (hashesG seed h) i).flatten (signL_el _ _ _);rw[signL_len] at hs;rw[partsG,if_neg (by omega),e0,t0,e1,getB_put4 i (by omega),if_neg (by omega),e2,e3,hp,hs]
theorem verify_sig (seed:Bs) (h i:Nat) (m:Bs) (hh:h<=6) (hi:i<2 ^ h) (hm:m.length<=65535):verifyG (keyG seed h) m (sigG seed h i m)=true:=by
 have hc:=climb_path _ (hashesG seed h) i [] nlr (by rw[hashesG_len];exact hi);rw[hashesG_len,hashesG_get _ _ _ hi,List.append_nil] at hc;rw[verifyG,parts_sig seed h i m hh hi];simp only;rw[rec_sign _ _ _ (show (digG (keyG seed h) i m).length=16 from short_len _),checkG,hc];have hk:=keyG_len seed h;unfold keyG at hk ⊢;simp[hm,hk]
def PathPost (hs:List Bs) (i:Nat) (w:World) (e:Ending) (w':World):Prop:=
 ∃v,e=.returned (.tuple #[v,.int .i64 0])/\OwnL w' w.heap.size v (pathG hs i)/\Below w.heap.size w w'
theorem rpath_any (m:Nat):∀(ls:List Bs) (i:Nat) (B:Nat) (u:Value) (w:World),ls.length<=m->i<ls.length->SeesL w B u ls->B<=w.heap.size->ls.length<=1024->(∀l∈ls,l.length<=1048576) ->
 Calls prog 241 #[u,.int .i64 (i:Int)] w (GivesL (pathG (ls.map leafH) i) w):=by
 induction m with
 | zero=>intro ls i B u w hm hi;omega
 | succ m ih=>
   intro ls i B u w hm hi hu hB hn hl
   by_cases h0:ls.length<=m
   ·exact ih ls i B u w h0 hi hu hB hn hl
   have hlen:ls.length=m+1:=by omega
   by_cases h2:2<=ls.length
   ·obtain⟨A,c,rfl,hc1,hc2⟩:=hu.mk_
    obtain⟨k1,k2,k3⟩:=splitN_lt ls.length h2;have hsp:=lhd (split_any ls.length w h2 (by omega));have p1:=fun h=>pathG_left (ls.map leafH) i (by rw[xlm];exact h2) h
    have p2:=fun h=>pathG_right (ls.map leafH) i (by rw[xlm];exact h2) h
    rw[xlm,<-List.map_take,<-List.map_drop] at p1 p2;replace p1:=lhd p1;replace p2:=lhd p2;generalize splitN ls.length=k at *;obtain⟨b,o,rfl,hbB,-⟩:=hu.at_ (by omega);have c1:=SeesL.cut (a:=0) (b:=k) hu (by omega) (by omega);have c2:=SeesL.cut (a:=k) (b:=ls.length) hu (by omega) nlr;rw[cutA_zero,Nat.sub_zero,Nat.sub_zero,List.drop_zero] at c1;rw[xtl (by rw[xld];omega)] at c2;have r2:=run_cut_from (P:=prog) 30 underlying30 1 slice_size (some ⟨b,o,none⟩) ls.length c .i64 (k:Int) (by omega) (by omega);rw[xnc] at r2;generalize cutA (some ⟨b,o,none⟩) c k 1=A2 at r2 c2;have l1:∀x∈ls.take k,x.length<=1048576:=fun x hx=>hl x (List.mem_of_mem_take hx)
    have l2:∀x∈ls.drop k,x.length<=1048576:=fun x hx=>hl x (List.mem_of_mem_drop hx)
    have n1:(ls.take k).length=k:=by rw[xlt];omega
    have n2:(ls.drop k).length=ls.length - k:=by rw[xld]
    have q1:=lhd (rootG_len _ (leafs_len (ls.take k)));have q2:=lhd (rootG_len _ (leafs_len (ls.drop k)));have hlm:=lhd hlen;have hplen:∀j,Hid ((pathG ((ls.take k).map leafH) j).length<=1024/\(pathG ((ls.drop k).map leafH) j).length<=1024):=fun j=>⟨Nat.le_trans (pathG_short _ _) (by rw[xlm];omega),Nat.le_trans (pathG_short _ _) (by rw[xlm];omega)⟩
    have j4:¬((ls.length:Int)=1):=by omega
    have j0:(0:Int)<=(k:Int):=by omega
    have j1:(k:Int)<=(c:Int):=by omega
    have j2:(k:Int)<=(ls.length:Int):=by omega
    by_cases hk:i<k
    ·have g1:=lhd (ih (ls.take k) i B _ w.drew (by omega) (by omega) (SeesL.below c1 (Below.refl B w).drew) hB (by omega) l1)
     have g2:=lhd (fun (W:World) (hbW:Below w.heap.size w W)=>rroot_any _ (ls.drop k) B _ W nlr (SeesL.below c2 (hbW.mono hB)) (Nat.le_trans hB hbW.size) (by omega) l2);have i0:(i:Int)<(k:Int):=by omega
     replace p1:=lhd (p1.out hk);have hp:=lhd (hplen i).out.1;clear ih c1 c2 hu hlen hl l1 l2 n1 n2 p2 hplen;generalize pathG ((ls.take k).map leafH) i=P at *;generalize rootG ((ls.drop k).map leafH)=R at *;generalize rootG ((ls.take k).map leafH)=R' at *
     go_enter func241,ntmps241
     go_wp2_with fail
     refine hsp.out.mono ?_;rintro e w0 ⟨rfl,rfl⟩;dsimp only
     go_wp2_with fail
     go_region_held3 (fun W':World=>True) (trivial)
      (first
       | (refine step_appL (by rfl) _ _ 30 underlying30 (by rfl) w0.heap.size _ P (by rfl) ho2.out _ _ _ R (by rfl) hcell.out hel.out (by have:=hp.out;omega) hb3.out.size ?_;intro v' w' hW2 hb4)
       | (go_at_call 201;refine (g2.out _ (bgo (bdrew _) hb1)).mono ?_;rintro e w2 ⟨v2,rfl,h2',hb2⟩;obtain⟨A9,c9,rfl,-,-⟩:=h2'.sees.mk_
          have hw2:=bgo (bgo (bdrew _) hb1) hb2;have hel:=Elt.of_from (v:=.slice A8 P.length c8) h2'.sees h2'.from (fun k hk=>(h1.lt k hk).2)
          have hcell:=lhd (one_cell w2 (.slice A9 R.length c9) 25);have ho2:=lhd ((h1.below hb2).below (balloc w2 (.cells #[.slice A9 R.length c9] 25)));replace hel:=lhd (hel.below (balloc w2 (.cells #[.slice A9 R.length c9] 25)));have hb3:=lhd (bgo hw2 (balloc w2 (.cells #[.slice A9 R.length c9] 25)));clear hb2 hw2 h2')
       | (go_at_call 241;refine g1.out.mono ?_;rintro e w1 ⟨v1,rfl,h1,hb1⟩;obtain⟨A8,c8,rfl⟩:=h1.shape))
     all_goals
      go_wp2_with fail
      go_ret
      exact⟨v',rfl,by rw[p1.out];exact hW2,hb3.out.trans hb4⟩
    have g1:=lhd (ih (ls.drop k) (i - k) B _ w.drew (by omega) (by omega) (SeesL.below c2 (Below.refl B w).drew) hB (by omega) l2);have g2:=lhd (fun (W:World) (hbW:Below w.heap.size w W)=>rroot_any _ (ls.take k) B _ W nlr (SeesL.below c1 (hbW.mono hB)) (Nat.le_trans hB hbW.size) (by omega) l1);have i0:¬((i:Int)<(k:Int)):=by omega
    have i1:IntKind.i64.wrap ((i:Int) - (k:Int))=((i - k:Nat):Int):=by rw[xwi];omega
    replace p2:=lhd (p2.out hk);have hp:=lhd (hplen (i - k)).out.2;clear ih c1 c2 hu hlen hl l1 l2 n1 n2 p1 hplen;generalize pathG ((ls.drop k).map leafH) (i - k)=P at *;generalize rootG ((ls.drop k).map leafH)=R' at *;generalize rootG ((ls.take k).map leafH)=R at *
    go_enter func241,ntmps241
    go_wp2_with fail
    refine hsp.out.mono ?_;rintro e w0 ⟨rfl,rfl⟩;dsimp only
    go_wp2_with fail
    go_region_held3 (fun W':World=>True) (trivial)
     (first
      | (refine step_appL (by rfl) _ _ 30 underlying30 (by rfl) w0.heap.size _ P (by rfl) ho2.out _ _ _ R (by rfl) hcell.out hel.out (by have:=hp.out;omega) hb3.out.size ?_;intro v' w' hW2 hb4)
      | (go_at_call 201;refine (g2.out _ (bgo (bdrew _) hb1)).mono ?_;rintro e w2 ⟨v2,rfl,h2',hb2⟩;obtain⟨A9,c9,rfl,-,-⟩:=h2'.sees.mk_
         have hw2:=bgo (bgo (bdrew _) hb1) hb2;have hel:=Elt.of_from (v:=.slice A8 P.length c8) h2'.sees h2'.from (fun k hk=>(h1.lt k hk).2)
         have hcell:=lhd (one_cell w2 (.slice A9 R.length c9) 25);have ho2:=lhd ((h1.below hb2).below (balloc w2 (.cells #[.slice A9 R.length c9] 25)));replace hel:=lhd (hel.below (balloc w2 (.cells #[.slice A9 R.length c9] 25)));have hb3:=lhd (bgo hw2 (balloc w2 (.cells #[.slice A9 R.length c9] 25)));clear hb2 hw2 h2')
      | (go_at_call 241;refine g1.out.mono ?_;rintro e w1 ⟨v1,rfl,h1,hb1⟩;obtain⟨A8,c8,rfl⟩:=h1.shape))
    all_goals
     go_wp2_with fail
     go_ret
     exact⟨v',rfl,by rw[p2.out];exact hW2,hb3.out.trans hb4⟩
   have h1:ls.length=1:=by omega
   have hp:pathG (ls.map leafH) i=[]:=pathG_one _ _ (by rw[xlm];exact h2);obtain⟨A,c,rfl,hc1,hc2⟩:=hu.mk_;rw[h1] at hc1 ⊢;rw[hp];clear hu ih hl hlen hp h1
   go_enter func241,ntmps241
   go_wp2_with fail
   go_ret
   exact⟨_,rfl,OwnL.nil _ _,Below.refl _ _⟩
theorem rpath_top (ls:List Bs) (i:Nat) (B:Nat) (u:Value) (w:World) (hu:SeesL w B u ls) (hi:i<ls.length) (hB:B<=w.heap.size) (hn:ls.length<=1024) (hl:∀l∈ls,l.length<=1048576) :
 Calls prog 183 #[u,.int .i64 (i:Int)] w (PathPost (ls.map leafH) i w):=by
 have hs:=lhd (rpath_any _ ls i B u w nlr hi hu hB hn hl);obtain⟨A,c,rfl,hc1,hc2⟩:=hu.mk_;have j0:¬((1024:Int)<(ls.length:Int)):=by omega
 have j1:¬((i:Int)<0):=by omega
 have j2:¬((ls.length:Int)<=(i:Int)):=by omega
 clear hu hl
 go_enter func183,ntmps183
 go_wp2_with fail
 refine hs.out.mono ?_;rintro e w1 ⟨v,rfl,h1,hb1⟩;dsimp only
 go_wp2_with fail
 go_returns
 exact⟨v,rfl,h1,hb1⟩
def ClimbSome (r:Bs) (rest:List Bs) (w:World) (e:Ending) (w':World):Prop:=
 ∃v v2,e=.returned (.tuple #[v,v2,.bool true])/\SeesB w' w'.heap.size v r/\SeesL w' w'.heap.size v2 rest/\Below w.heap.size w w'
def ClimbNone (w:World) (e:Ending) (w':World):Prop:=
 e=.returned (.tuple #[.slice none 0 0,.slice none 0 0,.bool false])/\Below w.heap.size w w'
def ClimbPost (x:Option (Bs × Nat)) (p:List Bs) (w:World) (e:Ending) (w':World):Prop:=
 match x with
 | none=>ClimbNone w e w'
 | some (r,used)=>ClimbSome r (p.drop used) w e w'
theorem SeesL.more {w:World} {B B':Nat} {u:Value} {ls:List Bs} (h:SeesL w B u ls) (hB:B<=B'):SeesL w B' u ls:=by
 obtain⟨vs,hs,hv⟩:=h;exact⟨vs,hs.more hB,fun k hk=>by obtain⟨v,h1,h2⟩:=hv k hk;exact⟨v,h1,h2.more hB⟩⟩
theorem drop_head (p:List Bs) (u:Nat) (h:u<p.length):(p.drop u).getD 0 []=p.getD u []/\(p.drop u).length=p.length - u/\0<(p.drop u).length/\(p.drop u).drop 1=p.drop (u+1):=by
 refine⟨by rw[xgd,List.getElem?_drop,Nat.add_zero,<-xgd],by rw[xld],by rw[xld];omega,by rw[List.drop_drop]⟩
theorem climb_any (m:Nat):∀(n i:Nat) (a:Bs) (p:List Bs) (B:Nat) (u u2:Value) (w:World),n<=m->1<=n->i<n->n<=1024->SeesB w B u a->SeesL w B u2 p->B<=w.heap.size->a.length<=1048576->(∀l∈p,l.length<=1048576) ->
 Calls prog 221 #[.int .i64 (n:Int),.int .i64 (i:Int),u,u2] w (ClimbPost (climbG n i a p) p w):=by
 induction m with
 | zero=>intro n i a p B u u2 w hm h1;omega
 | succ m ih=>
   intro n i a p B u u2 w hm h1 hi hn hu hu2 hB ha hp;obtain⟨A,c,rfl,hc1,hc2⟩:=hu.mk_;obtain⟨AA,cc,rfl,hc3,hc4⟩:=hu2.mk_
   by_cases h2:2<=n
   ·obtain⟨k1,k2,k3⟩:=splitN_lt n h2
    have hsp:=lhd (half_any n w h2 hn);have p1:=lhd (climbG_left n i a p h2);have p2:=lhd (climbG_right n i a p h2);have hlen:=fun k j r x h=>climbG_len n k j a p r x h
    generalize splitN n=k at *;have j4:¬((n:Int)=1):=by omega
    by_cases hk:i<k
    ·have g1:=ih k i a p B _ _ w (by omega) (by omega) hk (by omega) hu hu2 hB ha hp
     have i0:(i:Int)<(k:Int):=by omega
     replace p1:=lhd (p1.out hk);have hlen:=hlen k i;clear ih p2 hu hu2;rw[p1.out];rcases hcl:climbG k i a p with _|⟨r,used⟩
     ·rw[hcl] at g1
      replace g1:=lhd g1;clear p1 hcl hlen
      go_enter func221,ntmps221
      go_wp2_with fail
      refine hsp.out.mono ?_;rintro e w0 ⟨rfl,rfl⟩;dsimp only
      go_wp2_with fail
      refine g1.out.mono ?_;rintro e w1 ⟨rfl,hb1⟩;dsimp only
      go_wp2_with fail
      go_returns
      exact⟨rfl,hb1⟩
     rw[hcl] at g1;have hr:r.length<=1048576:=by rcases hlen r used (by omega) hcl with rfl | h<;>omega
     replace g1:Hid (Calls _ _ _ _ (ClimbSome r (p.drop used) w)):=g1;clear p1 hcl hlen;dsimp only
     by_cases hus:used<p.length
     ·obtain⟨d1,d2,d3,d4⟩:=drop_head p used hus
      have hx:(p.getD used []).length<=1048576:=by rw[xgd,xge hus];exact hp _ (xgx hus)
      rw[if_pos hus];show Calls _ _ _ _ (ClimbSome _ (p.drop (used+1)) w);rw[<-d4];rw[<-d1] at hx ⊢;generalize p.drop used=q at *;clear d1 d2 d4 hp hus;replace hx:=lhd hx;replace hr:=lhd hr
      go_enter func221,ntmps221
      go_wp2_with fail
      refine hsp.out.mono ?_;rintro e w0 ⟨rfl,rfl⟩;dsimp only
      go_wp2_with fail
      refine g1.out.mono ?_;rintro e w1 ⟨v,v2,rfl,hv,hv2,hb1⟩;obtain⟨A3,c3,rfl,e1,e2⟩:=hv.mk_;obtain⟨A4,c4,rfl,e3,e4⟩:=hv2.mk_;have hcut:=SeesL.cut (a:=1) (b:=q.length) hv2 (by omega) nlr;rw[xtl (by rw[xld];omega)] at hcut;obtain⟨b,o,rfl,hbB,hcell⟩:=hv2.at_ d3;obtain⟨A5,c5,x0,-,-,hsee⟩:=hcell 0 d3;rw[Nat.add_zero] at x0;have r2:=run_cut_from (P:=prog) 30 underlying30 1 slice_size (some ⟨b,o,none⟩) q.length c4 .i64 1 (by omega) (by omega);rw[show (1:Int).toNat=1 from rfl] at r2;generalize cutA (some ⟨b,o,none⟩) c4 1 1=A2 at r2 hcut;have hnd:=lhd (node_any w1.heap.size _ _ r _ w1.drew hv hsee nlr (Nat.le_trans hr.out (by omega)) (Nat.le_trans hx.out (by omega)));generalize q.getD 0 []=x at *;have t0:((q.length:Int) == 0)=false:=by rw[beq_eq_false_iff_ne];omega
      have t1:(0:Int)<(q.length:Int):=by omega
      have t2:(1:Int)<=(q.length:Int):=by omega
      replace hcut:=lhd hcut;replace hb1:=lhd hb1;clear hv hv2 hcell hsee;dsimp only
      go_wp2_with fail
      go_region_held3 (fun W':World=>W'.cell? ⟨b,o,none⟩=some (.slice A5 x.length c5)) (first | (go_keep;done) | exact ((hb3.cell (p:=⟨b,o,none⟩) hbB).trans x0))
       (first
        | (go_at_call 231;refine hnd.out.mono ?_;rintro e w2 ⟨v3,rfl,h3,hb3⟩))
      all_goals
       go_wp2_with fail
       go_returns
       have hw:=(bdrew w1).trans hb3;exact⟨v3,_,rfl,h3.sees,(hcut.out.below hw).more hw.size,bgo hb1.out hw⟩
     rw[if_neg hus];have hq:(p.drop used).length=0:=by rw[xld];omega
     generalize p.drop used=q at *;replace hq:=lhd hq;clear hp hus
     go_enter func221,ntmps221
     go_wp2_with fail
     refine hsp.out.mono ?_;rintro e w0 ⟨rfl,rfl⟩;dsimp only
     go_wp2_with fail
     refine g1.out.mono ?_;rintro e w1 ⟨v,v2,rfl,hv,hv2,hb1⟩;obtain⟨A3,c3,rfl,e1,e2⟩:=hv.mk_;obtain⟨A4,c4,rfl,e3,e4⟩:=hv2.mk_;rw[hq.out];clear hv hv2;dsimp only
     go_wp2_with fail
     go_returns
     exact⟨rfl,hb1⟩
    have g1:=ih (n - k) (i - k) a p B _ _ w (by omega) (by omega) (by omega) (by omega) hu hu2 hB ha hp;have i0:¬((i:Int)<(k:Int)):=by omega
    have i1:(k:Int)<=(i:Int):=by omega
    have i2:(k:Int)<=(n:Int):=by omega
    have i3:Hid (((i - k:Nat):Int)=(i:Int) - (k:Int)):=by show _=_;omega
    have i4:Hid (((n - k:Nat):Int)=(n:Int) - (k:Int)):=by show _=_;omega
    rw[i3.out,i4.out] at g1;replace p1:=lhd (p2.out hk);have hlen:=hlen (n - k) (i - k);clear ih p2 hu hu2;rw[p1.out];rcases hcl:climbG (n - k) (i - k) a p with _|⟨r,used⟩
    ·rw[hcl] at g1
     replace g1:=lhd g1;clear p1 hcl hlen
     go_enter func221,ntmps221
     go_wp2_with fail
     refine hsp.out.mono ?_;rintro e w0 ⟨rfl,rfl⟩;dsimp only
     go_wp2_with fail
     refine g1.out.mono ?_;rintro e w1 ⟨rfl,hb1⟩;dsimp only
     go_wp2_with fail
     go_returns
     exact⟨rfl,hb1⟩
    rw[hcl] at g1;have hr:r.length<=1048576:=by rcases hlen r used (by omega) hcl with rfl | h<;>omega
    replace g1:Hid (Calls _ _ _ _ (ClimbSome r (p.drop used) w)):=g1;clear p1 hcl hlen;dsimp only
    by_cases hus:used<p.length
    ·obtain⟨d1,d2,d3,d4⟩:=drop_head p used hus
     have hx:(p.getD used []).length<=1048576:=by rw[xgd,xge hus];exact hp _ (xgx hus)
     rw[if_pos hus];show Calls _ _ _ _ (ClimbSome _ (p.drop (used+1)) w);rw[<-d4];rw[<-d1] at hx ⊢;generalize p.drop used=q at *;clear d1 d2 d4 hp hus;replace hx:=lhd hx;replace hr:=lhd hr
     go_enter func221,ntmps221
     go_wp2_with fail
     refine hsp.out.mono ?_;rintro e w0 ⟨rfl,rfl⟩;dsimp only
     go_wp2_with fail
     refine g1.out.mono ?_;rintro e w1 ⟨v,v2,rfl,hv,hv2,hb1⟩;obtain⟨A3,c3,rfl,e1,e2⟩:=hv.mk_;obtain⟨A4,c4,rfl,e3,e4⟩:=hv2.mk_;have hcut:=SeesL.cut (a:=1) (b:=q.length) hv2 (by omega) nlr;rw[xtl (by rw[xld];omega)] at hcut;obtain⟨b,o,rfl,hbB,hcell⟩:=hv2.at_ d3;obtain⟨A5,c5,x0,-,-,hsee⟩:=hcell 0 d3;rw[Nat.add_zero] at x0;have r2:=run_cut_from (P:=prog) 30 underlying30 1 slice_size (some ⟨b,o,none⟩) q.length c4 .i64 1 (by omega) (by omega);rw[show (1:Int).toNat=1 from rfl] at r2;generalize cutA (some ⟨b,o,none⟩) c4 1 1=A2 at r2 hcut;have hnd:=lhd (node_any w1.heap.size _ _ _ r w1.drew hsee hv nlr (Nat.le_trans hx.out (by omega)) (Nat.le_trans hr.out (by omega)));generalize q.getD 0 []=x at *;have t0:((q.length:Int) == 0)=false:=by rw[beq_eq_false_iff_ne];omega
     have t1:(0:Int)<(q.length:Int):=by omega
     have t2:(1:Int)<=(q.length:Int):=by omega
     replace hcut:=lhd hcut;replace hb1:=lhd hb1;clear hv hv2 hcell hsee;dsimp only
     go_wp2_with fail
     go_region_held3 (fun W':World=>W'.cell? ⟨b,o,none⟩=some (.slice A5 x.length c5)) (first | (go_keep;done) | exact ((hb3.cell (p:=⟨b,o,none⟩) hbB).trans x0))
      (first
       | (go_at_call 231;refine hnd.out.mono ?_;rintro e w2 ⟨v3,rfl,h3,hb3⟩))
     all_goals
      go_wp2_with fail
      go_returns
      have hw:=(bdrew w1).trans hb3;exact⟨v3,_,rfl,h3.sees,(hcut.out.below hw).more hw.size,bgo hb1.out hw⟩
    rw[if_neg hus];have hq:(p.drop used).length=0:=by rw[xld];omega
    generalize p.drop used=q at *;replace hq:=lhd hq;clear hp hus
    go_enter func221,ntmps221
    go_wp2_with fail
    refine hsp.out.mono ?_;rintro e w0 ⟨rfl,rfl⟩;dsimp only
    go_wp2_with fail
    refine g1.out.mono ?_;rintro e w1 ⟨v,v2,rfl,hv,hv2,hb1⟩;obtain⟨A3,c3,rfl,e1,e2⟩:=hv.mk_;obtain⟨A4,c4,rfl,e3,e4⟩:=hv2.mk_;rw[hq.out];clear hv hv2;dsimp only
    go_wp2_with fail
    go_returns
    exact⟨rfl,hb1⟩
   obtain rfl:n=1:=by omega
   have hc:=climbG_one 1 i a p h2;rw[hc];show Calls _ _ _ _ (ClimbSome a (p.drop 0) w);rw[List.drop_zero];clear ih;replace hu:=lhd (hu.more hB);replace hu2:=lhd (SeesL.more hu2 hB)
   go_enter func221,ntmps221
   go_wp2_with fail
   go_returns
   exact⟨_,_,rfl,hu.out,hu2.out,Below.refl _ _⟩
def RClimbPost (x:Option (Bs × Nat)) (w:World) (e:Ending) (w':World):Prop:=
 match x with
 | none=>e=.returned (.tuple #[.slice none 0 0,.int .i64 0,.bool false])/\Below w.heap.size w w'
 | some (r,used)=>∃v,e=.returned (.tuple #[v,.int .i64 (used:Int),.bool true])/\SeesB w' w'.heap.size v r/\Below w.heap.size w w'
def RClimbSome (r:Bs) (used:Nat) (w:World) (e:Ending) (w':World):Prop:=∃v,e=.returned (.tuple #[v,.int .i64 (used:Int),.bool true])/\SeesB w' w'.heap.size v r/\Below w.heap.size w w'
def RClimbNone (w:World) (e:Ending) (w':World):Prop:=e=.returned (.tuple #[.slice none 0 0,.int .i64 0,.bool false])/\Below w.heap.size w w'
theorem rclimb_any (m:Nat):∀(n i:Nat) (a:Bs) (p:List Bs) (B:Nat) (u u2:Value) (w:World),n<=m->1<=n->i<n->n<=1024->SeesB w B u a->SeesL w B u2 p->B<=w.heap.size->a.length<=1048576->(∀l∈p,l.length<=1048576) ->
 Calls prog 172 #[.int .i64 (n:Int),.int .i64 (i:Int),u,u2] w (RClimbPost (climbG n i (leafH a) p) w):=by
 induction m with
 | zero=>intro n i a p B u u2 w hm h1;omega
 | succ m ih=>
   intro n i a p B u u2 w hm h1 hi hn hu hu2 hB ha hp;obtain⟨A,c,rfl,hc1,hc2⟩:=hu.mk_;obtain⟨AA,cc,rfl,hc3,hc4⟩:=hu2.mk_
   by_cases h2:2<=n
   ·obtain⟨k1,k2,k3⟩:=splitN_lt n h2
    have hsp:=lhd (split_any n w h2 (by omega));have p1:=lhd (climbG_left n i (leafH a) p h2);have p2:=lhd (climbG_right n i (leafH a) p h2);have hlen:=fun k j r x h=>climbG_len n k j (leafH a) p r x h
    have hall:(leafH a).length=32:=sha_len _;generalize splitN n=k at *;have j4:¬((n:Int)=1):=by omega
    by_cases hk:i<k
    ·have g1:=ih k i a p B _ _ w (by omega) (by omega) hk (by omega) hu hu2 hB ha hp
     have i0:(i:Int)<(k:Int):=by omega
     replace p1:=lhd (p1.out hk);have hlen:=hlen k i;rw[p1.out];clear ih hu p2;rcases hcl:climbG k i (leafH a) p with _|⟨r,used⟩
     ·rw[hcl] at g1
      replace g1:Hid (Calls _ _ _ _ (RClimbNone w)):=g1;clear p1 hcl hlen hu2;show Calls _ _ _ _ (RClimbNone w)
      go_enter func172,ntmps172
      go_wp2_with fail
      refine hsp.out.mono ?_;rintro e w0 ⟨rfl,rfl⟩;dsimp only
      go_wp2_with fail
      refine g1.out.mono ?_;rintro e w1 ⟨rfl,hb1⟩;dsimp only
      go_wp2_with fail
      go_returns
      exact⟨rfl,hb1⟩
     rw[hcl] at g1;have hr:r.length<=1048576:=by rcases hlen r used (by omega) hcl with rfl | h<;>omega
     have hul:=climbG_used _ _ _ _ _ _ _ nlr hcl;replace g1:Hid (Calls _ _ _ _ (RClimbSome r used w)):=g1;clear p1 hcl hlen hall;dsimp only
     by_cases hus:used<p.length
     ·have hx:(p.getD used []).length<=1048576:=by rw[xgd,xge hus];exact hp _ (xgx hus)
      rw[if_pos hus];show Calls _ _ _ _ (RClimbSome _ (used+1) w);obtain⟨b,o,rfl,hbB,hcell⟩:=hu2.at_ (by omega);obtain⟨A5,c5,x0,-,-,hsee⟩:=hcell used hus;have hsee:=lhd hsee;have t0:((used:Int) == (p.length:Int))=false:=by rw[beq_eq_false_iff_ne];omega
      have t1:(used:Int)<(p.length:Int):=by omega
      have t2:(0:Int)<=(used:Int):=by omega
      have t3:(p.length:Int)<=9223372036854775807:=by unfold maxLen at hc4;omega
      have hx0:Hid (w.cell? ⟨b,o+used,none⟩=some (.slice A5 (p.getD used []).length c5)):=x0;clear hp hus hcell hu2 x0;generalize p.getD used []=x at *;replace hx:=lhd hx;replace hr:=lhd hr
      go_enter func172,ntmps172
      go_wp2_with fail
      refine hsp.out.mono ?_;rintro e w0 ⟨rfl,rfl⟩;dsimp only
      go_wp2_with fail
      refine g1.out.mono ?_;rintro e w1 ⟨v,rfl,hv,hb1⟩;obtain⟨A3,c3,rfl,e1,e2⟩:=hv.mk_;have hsee:=hsee.out.below (hb1.mono hB);have x0:=(hb1.cell (p:=⟨b,o+used,none⟩) (by dsimp only;omega)).trans hx0.out;have hnd:=lhd (rnode_any w1.heap.size _ _ r _ w1 hv (hsee.more (by have:=hb1.size;omega)) nlr (Nat.le_trans hr.out (by omega)) (Nat.le_trans hx.out (by omega)));replace hb1:=lhd hb1;clear hv hsee;dsimp only
      go_wp2_with fail
      refine hnd.out.mono ?_;rintro e w2 ⟨v3,rfl,h3,hb3⟩;dsimp only
      go_wp2_with fail
      go_returns
      exact⟨v3,by rw[show ((used+1:Nat):Int)=(used:Int)+1 from rfl];rfl,h3.sees,bgo hb1.out hb3⟩
     rw[if_neg hus];have t0:((used:Int) == (p.length:Int))=true:=by rw[beq_iff_eq];omega
     clear hp hu2;show Calls _ _ _ _ (RClimbNone w)
     go_enter func172,ntmps172
     go_wp2_with fail
     refine hsp.out.mono ?_;rintro e w0 ⟨rfl,rfl⟩;dsimp only
     go_wp2_with fail
     refine g1.out.mono ?_;rintro e w1 ⟨v,rfl,hv,hb1⟩;obtain⟨A3,c3,rfl,e1,e2⟩:=hv.mk_;clear hv;dsimp only
     go_wp2_with fail
     go_returns
     exact⟨rfl,hb1⟩
    have g1:=ih (n - k) (i - k) a p B _ _ w (by omega) (by omega) (by omega) (by omega) hu hu2 hB ha hp;have i0:¬((i:Int)<(k:Int)):=by omega
    have i1:(k:Int)<=(i:Int):=by omega
    have i2:(k:Int)<=(n:Int):=by omega
    have i3:Hid (((i - k:Nat):Int)=(i:Int) - (k:Int)):=by show _=_;omega
    have i4:Hid (((n - k:Nat):Int)=(n:Int) - (k:Int)):=by show _=_;omega
    rw[i3.out,i4.out] at g1;replace p1:=lhd (p2.out hk);have hlen:=hlen (n - k) (i - k);rw[p1.out];clear ih hu p2;rcases hcl:climbG (n - k) (i - k) (leafH a) p with _|⟨r,used⟩
    ·rw[hcl] at g1
     replace g1:Hid (Calls _ _ _ _ (RClimbNone w)):=g1;clear p1 hcl hlen hu2;show Calls _ _ _ _ (RClimbNone w)
     go_enter func172,ntmps172
     go_wp2_with fail
     refine hsp.out.mono ?_;rintro e w0 ⟨rfl,rfl⟩;dsimp only
     go_wp2_with fail
     refine g1.out.mono ?_;rintro e w1 ⟨rfl,hb1⟩;dsimp only
     go_wp2_with fail
     go_returns
     exact⟨rfl,hb1⟩
    rw[hcl] at g1;have hr:r.length<=1048576:=by rcases hlen r used (by omega) hcl with rfl | h<;>omega
    have hul:=climbG_used _ _ _ _ _ _ _ nlr hcl;replace g1:Hid (Calls _ _ _ _ (RClimbSome r used w)):=g1;clear p1 hcl hlen hall;dsimp only
    by_cases hus:used<p.length
    ·have hx:(p.getD used []).length<=1048576:=by rw[xgd,xge hus];exact hp _ (xgx hus)
     rw[if_pos hus];show Calls _ _ _ _ (RClimbSome _ (used+1) w);obtain⟨b,o,rfl,hbB,hcell⟩:=hu2.at_ (by omega);obtain⟨A5,c5,x0,-,-,hsee⟩:=hcell used hus;have hsee:=lhd hsee;have t0:((used:Int) == (p.length:Int))=false:=by rw[beq_eq_false_iff_ne];omega
     have t1:(used:Int)<(p.length:Int):=by omega
     have t2:(0:Int)<=(used:Int):=by omega
     have t3:(p.length:Int)<=9223372036854775807:=by unfold maxLen at hc4;omega
     have hx0:Hid (w.cell? ⟨b,o+used,none⟩=some (.slice A5 (p.getD used []).length c5)):=x0;clear hp hus hcell hu2 x0;generalize p.getD used []=x at *;replace hx:=lhd hx;replace hr:=lhd hr
     go_enter func172,ntmps172
     go_wp2_with fail
     refine hsp.out.mono ?_;rintro e w0 ⟨rfl,rfl⟩;dsimp only
     go_wp2_with fail
     refine g1.out.mono ?_;rintro e w1 ⟨v,rfl,hv,hb1⟩;obtain⟨A3,c3,rfl,e1,e2⟩:=hv.mk_;have hsee:=hsee.out.below (hb1.mono hB);have x0:=(hb1.cell (p:=⟨b,o+used,none⟩) (by dsimp only;omega)).trans hx0.out;have hnd:=lhd (rnode_any w1.heap.size _ _ _ r w1 (hsee.more (by have:=hb1.size;omega)) hv nlr (Nat.le_trans hx.out (by omega)) (Nat.le_trans hr.out (by omega)));replace hb1:=lhd hb1;clear hv hsee;dsimp only
     go_wp2_with fail
     refine hnd.out.mono ?_;rintro e w2 ⟨v3,rfl,h3,hb3⟩;dsimp only
     go_wp2_with fail
     go_returns
     exact⟨v3,by rw[show ((used+1:Nat):Int)=(used:Int)+1 from rfl];rfl,h3.sees,bgo hb1.out hb3⟩
    rw[if_neg hus];have t0:((used:Int) == (p.length:Int))=true:=by rw[beq_iff_eq];omega
    clear hp hu2;show Calls _ _ _ _ (RClimbNone w)
    go_enter func172,ntmps172
    go_wp2_with fail
    refine hsp.out.mono ?_;rintro e w0 ⟨rfl,rfl⟩;dsimp only
    go_wp2_with fail
    refine g1.out.mono ?_;rintro e w1 ⟨v,rfl,hv,hb1⟩;obtain⟨A3,c3,rfl,e1,e2⟩:=hv.mk_;clear hv;dsimp only
    go_wp2_with fail
    go_returns
    exact⟨rfl,hb1⟩
   obtain rfl:n=1:=by omega
   have hc:=climbG_one 1 i (leafH a) p h2;rw[hc];show Calls _ _ _ _ (RClimbSome (leafH a) 0 w);have hlf:=lhd (rleaf_any B _ a w hu hB (by omega));clear ih hu hu2
   go_enter func172,ntmps172
   go_wp2_with fail
   refine hlf.out.mono ?_;rintro e w1 ⟨v,rfl,hv,hb1⟩;dsimp only
   go_wp2_with fail
   go_returns
   exact⟨_,rfl,hv.sees,hb1⟩
end Go.Proofs.YtjgepckncogdaaaGreat
