/- Contracts of functions, walks, plain facts. Conditions: those of each theorem. -/
import Derived.Test.YtjgepckncogdaaaGreatVHonest
import Derived.Test.YtjgepckncogdaaaGreatZC2
set_option linter.unusedVariables false
set_option linter.unusedSimpArgs false
set_option maxRecDepth 100000
set_option maxHeartbeats 16000000
namespace Go.Proofs.YtjgepckncogdaaaGreat
open Go Go.RowKit _root_.Go.Proofs.Tryz
theorem wrap_noparse {a c:Bs} (he:encC (wrapT a c)=0):parseC (wrapB c a)=3:=by
 obtain⟨d1,d2⟩:=dec_enc _ he;have d3:decT (wrapB c a)=wrapT a c:=d2;have d4:decC (wrapB c a)=0:=d1;have hp:parseOk (wrapB c a)=false:=by
  unfold parseOk;rw[d3,decide_eq_false (show ¬(wrapT a c).map (·.1)=names5 by intro h;have:=congrArg List.length h;simp[wrapT,names5] at this)]
  rfl
 rw[parseC,if_pos d4,hp]
 rfl
theorem wrap_nobatch {p n a c:Bs} (he:encC (wrapT a c)=0) (hn:n.length=32):bverC p n (wrapB c a)=3:=by
 rw[bverC,if_pos hn,wrap_noparse he,if_neg (by decide)]
theorem wrap_len {a c:Bs}:(wrapB c a).length<=2048:=by
 unfold wrapB encT
 split
 ·rename_i h
  unfold encC at h
  split at h
  ·omega
  split at h
  ·split at h
   ·omega
   omega
  exact absurd h ‹_›
 simp
theorem top_plain {sd sd2 S:Bs} {ns:List Bs} {lo hi:Int} (l1:sd.length=32) (l2:sd2.length=32) (n1:1<=ns.length) (n2:ns.length<=6) (h32:∀l∈ns,l.length=32) (hv:0<=lo/\lo<=hi/\hi<=131070)
 (hS:S=sigG sd 0 0 (tGrant++pubG sd2 1++spanB 0 1048576)) :
 ∃ys:List Bs,dansR sd2 1 0 (pubG sd2 1) 0 1048576 S ns lo hi=(((sd2,1,1),(pubG sd2 1,0,1048576,S)),ys,0)/\ys.length=ns.length/\∀i,i<ns.length ->
  (ys.getD i []).length<=2048/\dverC (pubG sd 0) (ns.getD i []) (ys.getD i [])=0/\dverLo (pubG sd 0) (ns.getD i []) (ys.getD i [])=lo/\dverHi (pubG sd 0) (ns.getD i []) (ys.getD i [])=hi/\bverC (pubG sd 0) (ns.getD i []) (ys.getD i [])=3:=by
 have p1:pubG sd 0=keyG sd 0:=pubG_key sd 0 l1 (by omega);have p2:pubG sd2 1=keyG sd2 1:=pubG_key sd2 1 l2 (by omega);have v3:vS lo hi=true:=by unfold vS;rw[decide_eq_true_iff];omega
 have v1:vS 0 1048576=true:=by decide
 have hi1:inS lo hi 0 1048576=true:=by unfold inS;rw[v3,v1,decide_eq_true (by omega),decide_eq_true (by omega)];rfl
 rw[p2] at hS;rw[p1,p2];have fS:fitsG S=true:=by rw[hS];exact head_sig _ _ _ _ (by omega)
 have hd:=dans_first (sd:=sd2) (P:=keyG sd2 1) (S:=S) (h:=1) (f:=0) (t:=1048576) (ns:=ns) (lo:=lo) (hi:=hi) l2 (by omega) (by omega) n1 (by omega) h32 v3 (keyG_len _ _) fS v1 hi1;refine⟨_,hd,by simp[ansL_len],fun i hi'=>?_⟩;have e1:((ansL ns (sigG sd2 (1:Int).toNat 0 (tBatch++partG ns lo hi)) (partG ns lo hi) ns.length).map (wrapB (dencB (keyG sd2 1) 0 1048576 S))).getD i []=wrapB (dencB (keyG sd2 1) 0 1048576 S) (ansB ns (sigG sd2 1 0 (tBatch++partG ns lo hi)) (partG ns lo hi) i):=by
  rw[xgd,xgm,ansL,xgm,List.getElem?_range hi']
  rfl
 rw[e1];have hm:ansB ns (sigG sd2 1 0 (tBatch++partG ns lo hi)) (partG ns lo hi) i∈ansL ns (sigG sd2 1 0 (tBatch++partG ns lo hi)) (partG ns lo hi) ns.length:=by
  rw[ansL,List.mem_map];exact⟨i,List.mem_range.2 hi',rfl⟩
 have q1:=ansL_props ns _ _ _ _ hm;have h3:=ans_le ns (sigG sd2 1 0 (tBatch++partG ns lo hi)) (partG ns lo hi) i (by rw[sigG_len];omega) (part_le ns lo hi);have h4:=denc_le (keyG sd2 1) 0 1048576 S (keyG_len _ _) (head_le S fS);have he:=wrap_fits _ _ q1.2 (denc_mod (keyG sd2 1) 0 1048576 S) (by omega);have hn:(ns.getD i []).length=32:=by
  rw[xgd,xge hi'];exact h32 _ (xgx hi')
 have hh:=dver_honest sd sd2 0 0 1 0 0 1048576 lo hi ns i (by omega) (by omega) (by omega) (by omega) v1 v3 hi1 (by omega) hi' hn S hS he;exact⟨wrap_len,hh.1,hh.2.1,hh.2.2,wrap_nobatch he hn⟩
end Go.Proofs.YtjgepckncogdaaaGreat
