/- Contracts of functions, walks, plain facts. Conditions: those of each theorem. -/
import Derived.Test.YtjgepckncogdaaaGreatZCopyL
set_option linter.unusedVariables false
set_option linter.unusedSimpArgs false
set_option maxRecDepth 100000
set_option maxHeartbeats 16000000
namespace Go.Proofs.YtjgepckncogdaaaGreat
open Go Go.RowKit _root_.Go.Proofs.Tryz
def AddP (ls:List LinkG) (t:LinkG) (w:World) (e:Ending) (w':World):Prop:=
 ∃v,e=.returned (.tuple #[v,.agg #[.int .i64 (addV ls t).1,.int .i64 (addV ls t).2],.int .i64 (addC ls t)])/\SeesR w' w'.heap.size v 3 (addL ls t).length (linkS (addL ls t))/\Below w.heap.size w w'
theorem add_bad {ls:List LinkG} {t:LinkG} {c:Int} (h:addC ls t=c) (hc:c≠0) {w w':World} (hb:Below w.heap.size w w'):AddP ls t w (.returned (.tuple #[.slice none 0 0,.agg #[.int .i64 0,.int .i64 0],.int .i64 c])) w':=by
 refine⟨.slice none 0 0,?_,?_,hb⟩
 ·rw[addV,h,if_neg hc]
 rw[addL,h,if_neg hc];exact SeesR.nil _ _ _
theorem add_ok {ls:List LinkG} {t:LinkG} {lo hi:Int} (h:addC ls t=0) (h1:dverLo t.1 (nextG ls t.2.1) t.2.2=lo) (h2:dverHi t.1 (nextG ls t.2.1) t.2.2=hi) {w w':World} {v:Value} {n:Nat} (hn:n=ls.length+1) (hs:SeesR w' w'.heap.size v 3 n (linkS ls++linkS [t])) (hb:Below w.heap.size w w'):AddP ls t w (.returned (.tuple #[v,.agg #[.int .i64 lo,.int .i64 hi],.int .i64 0])) w':=by
 subst hn;refine⟨v,?_,?_,hb⟩
 ·rw[addV,h,if_pos rfl,h1,h2]
 rw[addL,h,if_pos rfl,linkS_append,xla];exact hs
theorem noB_two (a b:Int):NoByte [Value.int .i64 a,.int .i64 b]:=by
 intro x hx n e;simp only[List.mem_cons,List.not_mem_nil,or_false] at hx;rcases hx with rfl|rfl<;>cases e
section
variable {w w':World} {base n size:Nat} {T:TypeId} {v:Value} {ss:List Spec}
theorem OwnR.set2 {G:Nat} {T':TypeId} {a b x y:Int} (h:OwnR w base T v size n ss) (hG:G<base) (hbx:Box w G T' [.int .i64 a,.int .i64 b]):OwnR ((w.setCell ⟨G,0,none⟩ (.int .i64 x)).setCell ⟨G,1,none⟩ (.int .i64 y)) base T v size n ss:=by
 have h1:=hbx.set 0 (.int .i64 x);simp only[xsz] at h1;exact (h.poke hG hbx (noB_two a b)).poke hG h1 (noB_two x b)
theorem app_src {B m:Nat} {v1 v2:Value} (h:OwnRF w B T v2 size m ss) (hv:∀j,v1.ownBlock=some j->j<B):∃vs,Sees w w.heap.size v2 size m vs/\∀(k:Nat) (t:Spec),ss[k]?=some t->∃y,vs[k]?=some y/\EltS w v1 y t:=by
 obtain⟨h0,vs,h1,h2⟩:=h;refine⟨vs,Sees.of_own h1,fun k s hk=>?_⟩;obtain⟨u,e1,e2,e3⟩:=h2 k s hk;refine⟨u,e1,?_⟩;cases s with
 | val x=>exact e2
 | byt l=>exact EltS.of_from e2.1 e3 hv
theorem link_row {g:Nat} {v1 v2 v3:Value} {t:LinkG} (x:Box w g 108 [v1,v2,v3]) (h1:SeesB w w.heap.size v1 t.1) (h2:SeesB w w.heap.size v2 t.2.1) (h3:SeesB w w.heap.size v3 t.2.2):SeesR w w.heap.size (.slice (some ⟨g,0,none⟩) 1 1) 3 [t].length (linkS [t]):=by
 refine⟨rfl,[v1,v2,v3],⟨rfl,_,1,rfl,Nat.le_refl _,by unfold maxLen;omega,fun _=>⟨g,0,rfl,x.lt,fun j u hj=>?_⟩⟩,fun k s hk=>?_⟩
 ·rw[Nat.zero_add,x.cell]
  exact hj
 ·match k,hk with
  | 0,hk=>cases hk;exact⟨_,rfl,h1⟩
  | 1,hk=>cases hk;exact⟨_,rfl,h2⟩
  | 2,hk=>cases hk;exact⟨_,rfl,h3⟩
  | k+3,hk=>simp[linkS] at hk
end
end Go.Proofs.YtjgepckncogdaaaGreat
