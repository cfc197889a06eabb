/- Contracts of functions, walks, plain facts. Conditions: those of each theorem. -/
import Derived.Test.YtjgepckncogdaaaGreatK26
set_option linter.unusedVariables false
set_option linter.unusedSimpArgs false
set_option maxRecDepth 100000
set_option maxHeartbeats 16000000
namespace Go.Proofs.YtjgepckncogdaaaGreat
open Go Go.RowKit _root_.Go.Proofs.Tryz
def wrapT (a c:Bs):List (Bs × Bs):=[(nANSW,a),(nCERT,c)]
def wrapB (c a:Bs):Bs:=encT (wrapT a c)
def wrapOk (c:Bs) (ys:List Bs):Bool:=ys.all fun a=>decide (encC (wrapT a c)=0)
abbrev GrantV:=(Bs × Int × Int) × (Bs × Int × Int × Bs)
def noGrant:GrantV:=(([],0,0),([],0,0,[]))
def dansR (sd:Bs) (h n:Int) (P:Bs) (f t:Int) (S:Bs) (ns:List Bs) (lo hi:Int):GrantV × List Bs × Int:=
 if dencC P f t S=0 then
  (if (answerR sd h n ns lo hi).2.2=0 then
   (if inS lo hi f t=true then
    (if wrapOk (dencB P f t S) (answerR sd h n ns lo hi).2.1=true then (((answerR sd h n ns lo hi).1,(P,f,t,S)),(answerR sd h n ns lo hi).2.1.map (wrapB (dencB P f t S)),0)
    else (noGrant,[],2))
   else (noGrant,[],25))
  else (noGrant,[],(answerR sd h n ns lo hi).2.2))
 else (noGrant,[],dencC P f t S)
theorem wrapOk_step (c:Bs) (ys:List Bs) (k:Nat) (a:Bs) (h:ys[k]?=some a):wrapOk c (ys.take (k+1))=(wrapOk c (ys.take k)&&decide (encC (wrapT a c)=0)):=by
 rw[take_one ys k a h];unfold wrapOk;rw[List.all_append];simp
theorem wrapOk_false {c:Bs} {ys:List Bs} {a:Bs} (h:a∈ys) (hc:encC (wrapT a c)≠0):wrapOk c ys=false:=by
 cases hw:wrapOk c ys with
 | false=>rfl
 | true=>
   unfold wrapOk at hw;rw[List.all_eq_true] at hw
   have:=hw a h
   simp at this;exact absurd this hc
theorem encT_mod (ts:List (Bs × Bs)):(encT ts).length % 4=0:=by
 by_cases h:encC ts=0
 ·have he:encT ts=bodyT ts:=by rw[encT,if_pos h]
  rw[he];unfold encC at h
  split at h
  ·omega
  split at h
  ·rename_i g1 g2
   have h4:=checkT_ok ts [] g2;have hb:=body_len ts h4 (by omega);have hd:=(dataT_pre ts h4 (by omega) ts.length).2;rw[xtl nlr] at hd
   omega
  rename_i g2
  exact absurd h g2
 rw[encT,if_neg h];rfl
theorem denc_mod (P:Bs) (f t:Int) (S:Bs):(dencB P f t S).length % 4=0:=by
 by_cases h:dencC P f t S=0
 ·rw[<-(dtags_enc P f t S h).2]
  exact encT_mod _
 rw[dencB,if_neg h];rfl
theorem ansL_props (ns:List Bs) (S part:Bs) (k:Nat):∀a∈ansL ns S part k,a.length<=2048/\a.length % 4=0:=by
 intro a ha;simp only[ansL,List.mem_map] at ha;obtain⟨i,-,rfl⟩:=ha;exact⟨ansB_len _ _ _ _,encT_mod _⟩
theorem answer_props {sd:Bs} {h n:Int} {ns:List Bs} {lo hi:Int} (h0:(answerR sd h n ns lo hi).2.2=0):1<=(answerR sd h n ns lo hi).2.1.length/\(answerR sd h n ns lo hi).2.1.length<=16/\∀a∈(answerR sd h n ns lo hi).2.1,a.length<=2048/\a.length % 4=0:=by
 by_cases h1:bchkC sd h n ns lo hi=0
 ·obtain⟨-,n1,n2,-,-⟩:=bchk_zero h1
  have e:answerR sd h n ns lo hi=if (signAll sd h n (tBatch++partG ns lo hi)).2.2.2.2=0 then
   (((signAll sd h n (tBatch++partG ns lo hi)).1,(signAll sd h n (tBatch++partG ns lo hi)).2.1,(signAll sd h n (tBatch++partG ns lo hi)).2.2.1),ansL ns (signAll sd h n (tBatch++partG ns lo hi)).2.2.2.1 (partG ns lo hi) ns.length,0)
  else (([],0,0),[],(signAll sd h n (tBatch++partG ns lo hi)).2.2.2.2):=by rw[answerR,if_pos h1]
  by_cases h2:(signAll sd h n (tBatch++partG ns lo hi)).2.2.2.2=0
  ·rw[e,if_pos h2]
   exact⟨by rw[ansL_len];exact n1,by rw[ansL_len];exact n2,ansL_props _ _ _ _⟩
  rw[e,if_neg h2] at h0;exact absurd h0 h2
 rw[answerR,if_neg h1] at h0;exact absurd h0 h1
theorem wrap_code (a c:Bs) (ha:a.length % 4=0) (hc:c.length % 4=0):encC (wrapT a c)=0\/encC (wrapT a c)=2:=by
 have h1:namedG nANSW=true:=by decide
 have h2:namedG nCERT=true:=by decide
 have h3:(Op.bytesLess nANSW [] || nANSW == [])=false:=by decide
 have h4:(Op.bytesLess nCERT nANSW || nCERT == nANSW)=false:=by decide
 have hk:checkT [] (wrapT a c)=0:=by
  unfold wrapT;rw[checkT,if_pos h1,h3,if_neg (by decide),if_pos ha,checkT,if_pos h2,h4,if_neg (by decide),if_pos hc,checkT]
 unfold encC;rw[if_neg (by simp[wrapT]),if_pos hk]
 split
 ·exact .inr rfl
 exact .inl rfl
attribute [local go_sem ↓] Go.wp_at_zero Go.wp_at_succ
theorem SeesL.set7 {W:World} {g B:Nat} {T:TypeId} {a0 a1 a2 a3 a4 a5 a6 u:Value} {ls:List Bs} (h:Box W g T [a0,a1,a2,a3,a4,a5,a6]) (n:NoByte [a0,a1,a2,a3,a4,a5,a6]) (hB:B<=W.heap.size) (hu:∀k,u.ownBlock=some k->k≠g) (x0 x1 x2 x3 x4 x5 x6:Value) (hs:SeesL W B u ls):SeesL (((((((W.setCell ⟨g,0,none⟩ x0).setCell ⟨g,1,none⟩ x1).setCell ⟨g,2,none⟩ x2).setCell ⟨g,3,none⟩ x3).setCell ⟨g,4,none⟩ x4).setCell ⟨g,5,none⟩ x5).setCell ⟨g,6,none⟩ x6) B u ls:=
 hs.over hB hu h n (ggo (ggo (ggo (ggo (ggo (ggo (setCell_grown W g 0 x0) (setCell_grown _ g 1 x1)) (setCell_grown _ g 2 x2)) (setCell_grown _ g 3 x3)) (setCell_grown _ g 4 x4)) (setCell_grown _ g 5 x5)) (setCell_grown _ g 6 x6))
end Go.Proofs.YtjgepckncogdaaaGreat
