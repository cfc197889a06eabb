/- Contracts of functions, walks, plain facts. Conditions: those of each theorem. -/
import Derived.Test.YtjgepckncogdaaaGreatK17
set_option linter.unusedVariables false
set_option linter.unusedSimpArgs false
set_option maxRecDepth 100000
set_option maxHeartbeats 16000000
namespace Go.Proofs.YtjgepckncogdaaaGreat
open Go Go.RowKit _root_.Go.Proofs.Tryz
attribute [local go_sem ↓] Go.wp_at_zero Go.wp_at_succ
def all32 (ls:List Bs):Bool:=ls.all fun l=>decide (l.length=32)
theorem all32_take (ls:List Bs) (k:Nat) (l:Bs) (h:ls[k]?=some l):all32 (ls.take (k+1))=(all32 (ls.take k)&&decide (l.length=32)):=by
 rw[take_one ls k l h];unfold all32;rw[List.all_append];simp
theorem all32_each {ls:List Bs} (h:all32 ls=true):∀l∈ls,l.length=32:=by
 intro l hl;unfold all32 at h;rw[List.all_eq_true] at h
 simpa using h l hl
def bchkC (sd:Bs) (h n:Int) (ns:List Bs) (lo hi:Int):Int:=
 if validI sd h n=true then (if ns.length<1\/16<ns.length then 8 else if (vS lo hi&&all32 ns)=true then 0 else 3) else 3
def rootTags (ns:List Bs) (lo hi:Int):List (Bs × Bs):=[(nROOT,rootG (ns.map leafH)),(nSPAN,spanB lo hi)]
def partG (ns:List Bs) (lo hi:Int):Bs:=encT (rootTags ns lo hi)
theorem partG_len (ns:List Bs) (lo hi:Int):(partG ns lo hi).length<=2048:=by
 unfold partG encT
 split
 ·rename_i h
  unfold encC at h
  split at h
  ·omega
  split at h
  ·split at h
   ·omega
   omega
  omega
 simp
theorem pb16 (f t:Int):(spanB f t).length=16:=by simp[spanB,putB_len]
def ansTags (i n:Nat) (P S part:Bs):List (Bs × Bs):=[(nINDX,putB 4 i),(nNUMB,putB 4 n),(nPATH,P),(nSIGN,pad4 S),(nSREP,part)]
def ansB (ns:List Bs) (S part:Bs) (i:Nat):Bs:=encT (ansTags i ns.length (pathG (ns.map leafH) i).flatten S part)
def ansL (ns:List Bs) (S part:Bs) (k:Nat):List Bs:=(List.range k).map (ansB ns S part)
theorem ansL_next (ns:List Bs) (S part:Bs) (k:Nat):ansL ns S part (k+1)=ansL ns S part k++[ansB ns S part k]:=by
 rw[ansL,ansL,List.range_succ,List.map_append];rfl
theorem ansL_len (ns:List Bs) (S part:Bs) (k:Nat):(ansL ns S part k).length=k:=by simp[ansL]
theorem encT_len (ts:List (Bs × Bs)):(encT ts).length<=2048:=by
 unfold encT
 split
 ·rename_i h
  unfold encC at h
  split at h
  ·omega
  split at h
  ·split at h
   ·omega
   omega
  omega
 simp
theorem ansB_len (ns:List Bs) (S part:Bs) (i:Nat):(ansB ns S part i).length<=2048:=encT_len _
theorem pathF_len (ns:List Bs) (i:Nat):(pathG (ns.map leafH) i).length<=ns.length/\(∀x∈pathG (ns.map leafH) i,x.length=32)/\(pathG (ns.map leafH) i).flatten.length=32 * (pathG (ns.map leafH) i).length:=by
 have h1:=pathG_short (ns.map leafH) i;rw[xlm] at h1;have h2:∀x∈pathG (ns.map leafH) i,x.length=32:=pathG_el _ _ _ nlr (leafs_len ns);exact⟨h1,h2,by rw[flat_len 32 _ h2,Nat.mul_comm]⟩
def answerR (sd:Bs) (h n:Int) (ns:List Bs) (lo hi:Int):(Bs × Int × Int) × List Bs × Int:=
 if bchkC sd h n ns lo hi=0 then
  (if (signAll sd h n (tBatch++partG ns lo hi)).2.2.2.2=0 then
   (((signAll sd h n (tBatch++partG ns lo hi)).1,(signAll sd h n (tBatch++partG ns lo hi)).2.1,(signAll sd h n (tBatch++partG ns lo hi)).2.2.1),ansL ns (signAll sd h n (tBatch++partG ns lo hi)).2.2.2.1 (partG ns lo hi) ns.length,0)
  else (([],0,0),[],(signAll sd h n (tBatch++partG ns lo hi)).2.2.2.2))
 else (([],0,0),[],bchkC sd h n ns lo hi)
def AnswerP (r:(Bs × Int × Int) × List Bs × Int) (w:World) (e:Ending) (w':World):Prop:=
 ∃v1 v2,e=.returned (.tuple #[.agg #[v1,.int .i64 r.1.2.1,.int .i64 r.1.2.2],v2,.int .i64 r.2.2])/\Elt w' v2 v1 r.1.1/\OwnL w' w.heap.size v2 r.2.1/\Below w.heap.size w w'
theorem answer_bad {r:(Bs × Int × Int) × List Bs × Int} {c:Int} (h:r=(([],0,0),[],c)) {w w':World} (hb:Below w.heap.size w w'):AnswerP r w (.returned (.tuple #[.agg #[.slice none 0 0,.int .i64 0,.int .i64 0],.slice none 0 0,.int .i64 c])) w':=by
 subst h;exact⟨_,_,rfl,⟨SeesB.nil _ _,fun h=>absurd rfl h⟩,OwnL.nil _ _,hb⟩
theorem answer_ok {r:(Bs × Int × Int) × List Bs × Int} {rs:Bs} {rh rn:Int} {ls:List Bs} (h:r=((rs,rh,rn),ls,0)) {w W:World} {base:Nat} {v1 v2:Value} (t1:SeesB W W.heap.size v1 rs) (ta:rs≠[]->∀k,v1.ownBlock=some k->v2.ownBlock≠some k) (t2:OwnL W base v2 ls) (hbase:w.heap.size<=base) (hb:Below w.heap.size w W):AnswerP r w (.returned (.tuple #[.agg #[v1,.int .i64 rh,.int .i64 rn],v2,.int .i64 0])) W:=by
 subst h;exact⟨_,_,rfl,⟨t1,ta⟩,t2.mono hbase,hb⟩
theorem bchk_zero {sd:Bs} {h n:Int} {ns:List Bs} {lo hi:Int} (hc:bchkC sd h n ns lo hi=0):validI sd h n=true/\1<=ns.length/\ns.length<=16/\vS lo hi=true/\∀l∈ns,l.length=32:=by
 unfold bchkC at hc
 split at hc
 ·rename_i h1
  split at hc
  ·omega
  rename_i h2
  split at hc
  ·rename_i h3
   rw[Bool.and_eq_true] at h3;exact⟨h1,by omega,by omega,h3.1,all32_each h3.2⟩
  omega
 omega
theorem sign_sig {sd:Bs} {h n:Int} {m:Bs} (hv:validI sd h n=true) (h0:(signAll sd h n m).2.2.2.2=0):∃k i:Nat,h=(k:Int)/\n=(i:Int)/\k<=6/\i<2 ^ k/\sd.length=32/\signAll sd h n m=(sd,h,n+1,sigG sd k i m,0):=by
 have hh:sd.length=32/\0<=h/\h<=6/\0<=n/\n<=2 ^ h.toNat:=by simp[validI] at hv;omega
 obtain⟨hl,h0',h1,h2,h3⟩:=hh;obtain⟨k,rfl⟩:=Int.eq_ofNat_of_zero_le h0';obtain⟨i,rfl⟩:=Int.eq_ofNat_of_zero_le h2;rw[xnc] at h3;have hpc:((2 ^ k:Nat):Int)=(2:Int) ^ k:=by simp
 by_cases hn:(i:Int)=2 ^ k
 ·have:signAll sd k i m=([],0,0,[],7):=by
   rw[signAll,if_pos hv,if_pos (by rw[xnc];exact hn)]
  rw[this] at h0;simp at h0
 have:signAll sd k i m=(sd,(k:Int),(i:Int)+1,sigG sd k i m,0):=by simp[signAll,hv,hn]
 exact⟨k,i,rfl,rfl,by omega,by omega,hl,this⟩
theorem answer_first {sd:Bs} {h:Int} {ns:List Bs} {lo hi:Int} (hl:sd.length=32) (h0:0<=h) (h1:h<=6) (n1:1<=ns.length) (n2:ns.length<=16) (hn:∀l∈ns,l.length=32) (hv:vS lo hi=true) :
 answerR sd h 0 ns lo hi=((sd,h,1),ansL ns (sigG sd h.toNat 0 (tBatch++partG ns lo hi)) (partG ns lo hi) ns.length,0):=by
 have hV:validI sd h 0=true:=by
  obtain⟨k,rfl⟩:=Int.eq_ofNat_of_zero_le h0;exact validI_mk sd k 0 hl (by omega) (Nat.zero_le _)
 have ha:all32 ns=true:=by
  unfold all32;rw[List.all_eq_true];intro l hl;simp[hn l hl]
 have hc:bchkC sd h 0 ns lo hi=0:=by
  unfold bchkC;rw[if_pos hV,if_neg (by omega),hv,ha]
  rfl
 have hs:∀m,signAll sd h 0 m=(sd,h,1,sigG sd h.toNat 0 m,0):=fun m=>by
  unfold signAll;have hp:(1:Int)<=2 ^ h.toNat:=by
   have h9:0<2 ^ h.toNat:=Nat.pos_of_ne_zero (by simp)
   have:((2 ^ h.toNat:Nat):Int)=(2:Int) ^ h.toNat:=by simp
   omega
  rw[if_pos hV,if_neg (by omega)]
  rfl
 rw[answerR,if_pos hc,hs]
 rfl
end Go.Proofs.YtjgepckncogdaaaGreat
