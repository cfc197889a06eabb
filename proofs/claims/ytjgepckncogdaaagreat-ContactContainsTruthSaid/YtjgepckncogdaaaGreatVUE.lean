/- Contracts of functions, walks, plain facts. Conditions: those of each theorem. -/
import Derived.Test.YtjgepckncogdaaaGreatVUP
import Derived.Test.YtjgepckncogdaaaGreatVSortev
set_option linter.unusedVariables false
set_option linter.unusedSimpArgs false
set_option maxRecDepth 100000
set_option maxHeartbeats 16000000
namespace Go.Proofs.YtjgepckncogdaaaGreat
open Go.RowKit Go.Sort _root_.Go.Proofs.Tryz
attribute [local go_sem ↓] Go.wp_at_zero Go.wp_at_succ
theorem isnan_any (x:Int) (w:World):Calls prog 305 #[.int .i64 x] w fun e w'=>e=.returned (.bool false)/\w=w':=by
 go_enter func305,ntmps305
 go_wp2
 go_ret
 exact⟨ret_bool (by simp),rfl⟩
theorem compare_any (x y:Int) (w:World):Calls prog 292 #[.int .i64 x,.int .i64 y] w fun e w'=>e=.returned (.int .i64 (Lib.compareInt x y))/\w=w':=by
 unfold Lib.compareInt
 by_cases h1:x<y
 ·rw[if_pos h1]
  go_enter func292,ntmps292
  go_wp2_with (go_at_call 305;refine (isnan_any _ _).mono ?_;rintro e w' ⟨rfl,rfl⟩)
  go_ret
  exact⟨rfl,rfl⟩
 rw[if_neg h1]
 by_cases h2:y<x
 ·rw[if_pos h2]
  go_enter func292,ntmps292
  go_wp2_with (go_at_call 305;refine (isnan_any _ _).mono ?_;rintro e w' ⟨rfl,rfl⟩)
  go_ret
  exact⟨rfl,rfl⟩
 rw[if_neg h2]
 go_enter func292,ntmps292
 go_wp2_with (go_at_call 305;refine (isnan_any _ _).mono ?_;rintro e w' ⟨rfl,rfl⟩)
 go_ret
 exact⟨rfl,rfl⟩
def encE (x:Int × Int):List Value:=[.int .i64 x.1,.int .i64 x.2]
theorem ltE (x y:Int × Int):ltOf (fun x y:Int × Int=>Lib.compareInt x.1 y.1) x y=decide (x.1<y.1):=by
 unfold ltOf Lib.compareInt
 by_cases h1:x.1<y.1
 ·simp[h1]
 by_cases h2:y.1<x.1<;>simp[h1,h2]
theorem swoE:SWO (ltOf fun x y:Int × Int=>Lib.compareInt x.1 y.1) where
 irrefl x:=by rw[ltE];simp
 trans x y z h1 h2:=by rw[ltE] at *;simp at *;omega
 ntrans x y z h1 h2:=by rw[ltE] at *;simp at *;omega
theorem evcl_any (x y:Int × Int) (W:World):Calls prog 291 #[.agg #[.int .i64 x.1,.int .i64 x.2],.agg #[.int .i64 y.1,.int .i64 y.2]] W fun e w'=>e=.returned (.int .i64 (Lib.compareInt x.1 y.1))/\∃q os',w'=grow (W.drewN q) os':=by
 have hcon:=fun W'=>compare_any x.1 y.1 W'
 generalize Lib.compareInt x.1 y.1=r at hcon ⊢
 go_enter func291,ntmps291
 go_wp2_with (go_at_call 292;refine (hcon _).mono ?_;rintro e w' ⟨rfl,rfl⟩)
 go_ret
 exact⟨rfl,0,_,by rw[alloc_eq_grow,alloc_eq_grow,grow_grow];rfl⟩
theorem evLays (blk off size:Nat) (w:World):CmpLays prog 291 #[] encE 2 (fun x y=>Lib.compareInt x.1 y.1) blk off size w:=
 fun _ _ _ _ x y=>evcl_any x y _
theorem flat_sp (d:List (Int × Int)):flatK encE 2 d.toArray=(spV d).toArray:=by
 refine ext_get! (by rw[size_flatK];simp[spV_len]) fun t ht=>?_
 rw[size_flatK] at ht;rw[get_flatK _ _ _ _ ht];have hj:t / 2<d.length:=by simp at ht;omega
 have hs:=spV_get d (t / 2) _ (xge hj);have hd:(d.toArray)[t / 2]! = d[t / 2]:=by simp[hj]
 rw[hd];rcases Nat.mod_two_eq_zero_or_one t with h|h
 ·have e:t / 2 * 2=t:=by omega
  rw[e] at hs;rw[h]
  have:=hs.1
  simp only[encE];rw[show (spV d).toArray[t]! = ((spV d).toArray[t]?).getD default from by simp[getElem!_def];split<;>simp_all];simp[this]
 have e:t / 2 * 2+1=t:=by omega
 rw[e] at hs;rw[h]
 have:=hs.2
 simp only[encE];rw[show (spV d).toArray[t]! = ((spV d).toArray[t]?).getD default from by simp[getElem!_def];split<;>simp_all];simp[this]
theorem holds_own {w:World} {base g cap:Nat} {d:List (Int × Int)} (h:w.ownsRow base 290 2 (.slice (some ⟨g,0,none⟩) d.length cap) d.length (spV d)):HoldsK encE 2 w g 0 d.toArray:=by
 unfold HoldsK Holds;rw[flat_sp];intro j hj;have hj':j<(spV d).length:=by simpa using hj
 rw[Nat.zero_add];refine⟨?_,h.frozenAt j⟩;rw[h.cellAt j (by rw[spV_len] at hj';exact hj'),xge hj'];simp[hj']
theorem put_take (F cur:Array Value) (h:F.size<=cur.size):(putCells id 0 F cur).toList.take F.size=F.toList:=by
 apply List.ext_getElem?;intro k;rw[List.getElem?_take]
 by_cases hk:k<F.size
 ·rw[if_pos hk]
  unfold putCells;rw[Array.getElem?_toList,Array.getElem?_mapIdx,Array.getElem?_eq_getElem (show k<cur.size by omega),Option.map_some,if_pos ⟨Nat.zero_le _,by omega⟩,Array.getElem?_toList,Array.getElem?_eq_getElem hk];simp[hk]
 rw[if_neg hk,Array.getElem?_toList,Array.getElem?_eq_none (by omega)]
theorem sorted_own {w:World} {base g cap:Nat} {d:List (Int × Int)} (h:w.ownsRow base 290 2 (.slice (some ⟨g,0,none⟩) d.length cap) d.length (spV d)) (d':Array (Int × Int)) (hs:d'.size=d.length) (n:Nat) (os:Array Obj) :
 (sortWorldK encE 2 w g 0 n d' os).ownsRow base 290 2 (.slice (some ⟨g,0,none⟩) d.length cap) d.length (spV d'.toList)/\w.grownBy (sortWorldK encE 2 w g 0 n d' os) (some g):=by
 have hF:flatK encE 2 d'=(spV d'.toList).toArray:=by
  have:=flat_sp d'.toList
  rwa [Array.toArray_toList] at this
 have hFs:(flatK encE 2 d').size=d.length * 2:=by rw[size_flatK,hs]
 rcases h.2 with ⟨h',_⟩|⟨g',cap',cur,h',hb,hg,hnc,hcm,hcs,htake⟩
 ·simp at h'
 simp only[Value.slice.injEq,Option.some.injEq,Addr.mk.injEq,and_true,true_and] at h';obtain⟨rfl,rfl⟩:=h';have hlt:g<w.heap.size:=(Array.getElem?_eq_some_iff.1 hg).1;refine⟨⟨by rw[spV_len,Array.length_toList,hs],.inr ⟨g,cap,putCells id 0 (flatK encE 2 d') cur,rfl,hb,?_,hnc,hcm,by simp[putCells,hcs],?_⟩⟩,rfl,rfl,rfl,?_,fun k hk hne=>?_⟩
 ·show (((Sort.ahead w n).heap.modify g (onCells (putCells id 0 (flatK encE 2 d'))))++os)[g]?=_
  rw[Array.getElem?_append_left (by simpa [Sort.ahead] using hlt),Array.getElem?_modify];show (if g=g then (w.heap[g]?).map _ else _)=_;rw[if_pos rfl,hg]
  rfl
 ·rw[<-hFs,put_take _ _ (by rw[hFs,hcs];omega),hF]
 ·show w.heap.size<=(((Sort.ahead w n).heap.modify g (onCells (putCells id 0 (flatK encE 2 d'))))++os).size
  rw[Array.size_append,Array.size_modify];exact Nat.le_add_right _ _
 show (((Sort.ahead w n).heap.modify g (onCells (putCells id 0 (flatK encE 2 d'))))++os)[k]?=_;rw[Array.getElem?_append_left (by simpa [Sort.ahead] using hk),Array.getElem?_modify,if_neg (fun e=>hne (by rw[e]))]
 rfl
theorem evs_of {l:List Sp} {d':Array (Int × Int)} (hp:PermIn 0 (evs l).toArray.size (evs l).toArray d') (hs:SortedIn (ltOf fun x y:Int × Int=>Lib.compareInt x.1 y.1) 0 (evs l).toArray.size d'):Evs l d'.toList:=by
 obtain⟨h1,-,h3⟩:=hp
 constructor
 ·have e1:d'.extract 0 (evs l).toArray.size=d':=by rw[<-h1];simp
  have e2:(evs l).toArray.extract 0 (evs l).toArray.size=(evs l).toArray:=by simp
  rw[e1,e2] at h3
  simpa using h3
 rw[List.pairwise_iff_getElem];intro i j hi hj hij;have hi':i<d'.size:=by simpa using hi
 have hj':j<d'.size:=by simpa using hj
 have:=hs i j (Nat.zero_le _) hij (by rw[<-h1];exact hj')
 rw[ltE] at this;simp[hi',hj'] at this
 simpa using this
theorem evs_take {l:List Sp} {k:Nat} {s:Sp} (h:l[k]?=some s):evs (l.take (k+1))=evs (l.take k)++[(s.1,1),(s.2+1,-1)]:=by
 rw[List.take_add_one,h];unfold evs;rw[List.flatMap_append]
 rfl
end Go.Proofs.YtjgepckncogdaaaGreat
namespace Go.Proofs.YtjgepckncogdaaaGreat
open Go Go.RowKit _root_.Go.Proofs.Tryz
attribute [local go_sem ↓] Go.wp_at_zero Go.wp_at_succ
structure Cuts (l:List Sp) (c:List Int):Prop where
 asc:c.Pairwise (·<·)
 mem:∀x,x∈c↔∃e∈evs l,x=e.1
section
variable {l:List Sp} {c:List Int} {k:Nat} {t x y:Int} {ps ini:List (Int × Int × Int)} {q:Int × Int × Int}
theorem sumTo_congr (d:List (Int × Int)) {t t':Int} (h:∀e∈d,e.1<=t↔e.1<=t'):sumTo d t=sumTo d t':=by
 unfold sumTo
 congr 1
 refine List.map_congr_left fun e he=>?_
 by_cases h1:e.1<=t
 ·rw[if_pos h1,if_pos ((h e he).1 h1)]
 rw[if_neg h1,if_neg (fun h2=>h1 ((h e he).2 h2))]
theorem Cuts.at_le (h:Cuts l c) {j:Nat} (hj:c[j]?=some x) (hk:c[k]?=some y) (hjk:j<=k):x<=y:=by
 obtain⟨h1,rfl⟩:=List.getElem?_eq_some_iff.1 hj;obtain⟨h2,rfl⟩:=List.getElem?_eq_some_iff.1 hk;rcases Nat.lt_or_ge j k with h3|h3
 ·exact Int.le_of_lt (List.pairwise_iff_getElem.1 h.asc j k h1 h2 h3)
 obtain rfl:j=k:=by omega
 exact Int.le_refl _
theorem Cuts.at_lt (h:Cuts l c) {j:Nat} (hj:c[j]?=some x) (hk:c[k]?=some y) (hjk:j<k):x<y:=by
 obtain⟨h1,rfl⟩:=List.getElem?_eq_some_iff.1 hj;obtain⟨h2,rfl⟩:=List.getElem?_eq_some_iff.1 hk;exact List.pairwise_iff_getElem.1 h.asc j k h1 h2 hjk
theorem Cuts.first (h:Cuts l c) (hv:okV l=true) (hx:c[0]?=some x) (ht:t<x):cnt l t=0:=by
 have:=sumTo_evs (okV_le hv) t
 rw[sumTo_none (fun e he=>by
  obtain⟨j,hj⟩:=List.getElem?_of_mem ((h.mem e.1).2 ⟨e,he,rfl⟩)
  have:=h.at_le hx hj (Nat.zero_le _)
  omega)] at this
 omega
theorem Cuts.mid (h:Cuts l c) (hv:okV l=true) (hx:c[k]?=some x) (hy:c[k+1]?=some y) (h1:x<=t) (h2:t<y):cnt l t=cnt l x:=by
 have a:=sumTo_evs (okV_le hv) t;have b:=sumTo_evs (okV_le hv) x;rw[sumTo_congr (evs l) (t':=x) (fun e he=>by
  obtain⟨j,hj⟩:=List.getElem?_of_mem ((h.mem e.1).2 ⟨e,he,rfl⟩)
  constructor
  ·intro h3
   rcases Nat.lt_or_ge k j with h4|h4
   ·have:=h.at_le hy hj (by omega);omega
   exact h.at_le hj hx h4
  intro h3;omega),b] at a
 omega
theorem Cuts.last (h:Cuts l c) (hx:c[k]?=some x) (hk:k+1=c.length) (ht:x<=t):cnt l t=0:=by
 unfold cnt;rw[List.countP_eq_zero];intro s hs;unfold hol;rw[decide_eq_true_iff];rintro⟨-,h2⟩;obtain⟨j,hj⟩:=List.getElem?_of_mem ((h.mem (s.2+1)).2 ⟨(s.2+1,-1),by unfold evs;exact List.mem_flatMap.2 ⟨s,hs,by simp⟩,rfl⟩)
 have:=h.at_le hj hx (by have:=(List.getElem?_eq_some_iff.1 hj).1;omega)
 omega
theorem Cuts.bound (h:Cuts l c) (hv:okV l=true):∀x∈c,-1152921504606846976<=x/\x<=1152921504606846977:=fun x hx=>by
 obtain⟨e,he,rfl⟩:=(h.mem x).1 hx;exact (evs_each hv e he).2
theorem Cuts.ne (h:Cuts l c) (h0:0<l.length):0<c.length:=by
 cases l with
 | nil=>simp at h0
 | cons s l=>
   have:=(h.mem s.1).2 ⟨(s.1,1),by rw[evs_cons];simp,rfl⟩
   exact List.length_pos_of_mem this
def CI (l:List Sp) (c:List Int) (k:Nat) (ps:List (Int × Int × Int)):Prop:=∀x,c[k]?=some x->PInv l x ps
theorem CI.start (h:Cuts l c) (hv:okV l=true):CI l c 0 []:=fun x hx=>PInv.start fun t ht=>h.first hv hx ht
theorem CI.skip (h:Cuts l c) (hv:okV l=true) (hx:c[k]?=some x) (hy:c[k+1]?=some y) (h0:cnt l x=0) (hi:CI l c k ps):CI l c (k+1) ps:=fun z hz=>by
 rw[hy] at hz;obtain rfl:=Option.some.inj hz;exact (hi x hx).skip (h.at_le hx hy (by omega)) fun t t1 t2=>by rw[h.mid hv hx hy t1 t2];exact h0
theorem CI.push (h:Cuts l c) (hv:okV l=true) (hx:c[k]?=some x) (hy:c[k+1]?=some y) (hi:CI l c k ps):CI l c (k+1) (ps++[(x,y - 1,(cnt l x:Int))]):=fun z hz=>by
 rw[hy] at hz;obtain rfl:=Option.some.inj hz;exact (hi x hx).push (h.at_lt hx hy (by omega)) fun t t1 t2=>by rw[h.mid hv hx hy t1 t2]
theorem CI.join (h:Cuts l c) (hv:okV l=true) (hx:c[k]?=some x) (hy:c[k+1]?=some y) (hq:q.2.1+1=x) (hc:q.2.2=(cnt l x:Int)) (hi:CI l c k (ini++[q])):CI l c (k+1) (ini++[(q.1,y - 1,q.2.2)]):=fun z hz=>by
 rw[hy] at hz;obtain rfl:=Option.some.inj hz;exact (hi x hx).join hq hc (h.at_lt hx hy (by omega)) fun t t1 t2=>by rw[h.mid hv hx hy t1 t2]
theorem CI.all (h:Cuts l c) (hk:k+1=c.length) (hi:CI l c k ps):PAll l ps:=by
 have hx:=xge (show k<c.length by omega);exact (hi _ hx).all fun t ht=>h.last hx hk ht
end
theorem Cuts.step {l l':List Sp} {c c1 c2:List Int} {a b:Int} (h:Cuts l c) (he:evs l'=evs l++[(a,1),(b,-1)]) (h1:∀x,x∈c1↔x∈c\/x=a) (h2:∀x,x∈c2↔x∈c1\/x=b) (p:c2.Pairwise (·<·)):Cuts l' c2:=by
 refine⟨p,fun x=>?_⟩;rw[h2,h1,h.mem,he]
 constructor
 ·rintro ((⟨e,he,rfl⟩ | rfl) | rfl)
  ·exact⟨e,List.mem_append_left _ he,rfl⟩
  ·exact⟨(x,1),by simp,rfl⟩
  exact⟨(x,-1),by simp,rfl⟩
 rintro⟨e,he,rfl⟩;rcases List.mem_append.1 he with he|he
 ·exact .inl (.inl ⟨e,he,rfl⟩)
 simp only[List.mem_cons,List.not_mem_nil,or_false] at he;rcases he with rfl|rfl
 ·exact .inl (.inr rfl)
 exact .inr rfl
def CutsP (l:List Sp) (w:World) (e:Ending) (w':World):Prop:=∃v c,e=.returned v/\Lit w' v c/\Cuts l c/\c.length<=2 * l.length/\Below w.heap.size w w'
theorem cuts_any (B:Nat) (u:Value) (l:List Sp) (w:World) (hu:SeesS w B u l) (hB:B<=w.heap.size) (hn:l.length<=64) (hok:okV l=true) :
 Calls prog 275 #[u] w (CutsP l w):=by
 obtain⟨A,c,rfl,-,-⟩:=hu.mk_;replace hok:=lhd hok;replace hu:=lhd hu
 go_enter func275,ntmps275
 go_wp2_with fail
 go_loopw [3,4] (fun s i wr=>∃(k:Nat) (cs:List Int),k<=l.length/\i=.int .i64 k/\cs.length<=2 * k/\Hid (Lit wr s cs)/\Hid (Cuts (l.take k) cs)/\Hid (Below w.heap.size w wr)) (fun _ i _=>l.length - (intOf i).toNat)
 case atStart=>exact⟨0,[],by omega,rfl,by simp,Sees.nil _ _ _,⟨List.Pairwise.nil,fun x=>⟨fun h=>absurd h (by simp),fun ⟨e,he,_⟩=>absurd he (by simp[evs])⟩⟩,Below.refl _ _⟩
 case round=>
  obtain⟨k,cs,hk,rfl,hcl,hs,hC,hb⟩:=hrel;obtain⟨As,cc,rfl,-,-⟩:=QSeesI.mk_ hs.out
  by_cases hlt:k<l.length
  ·obtain⟨b,o,rfl,hbB,hds⟩:=SeesS.at_ (Sees.below hu.out (hb.out.mono hB)) (by omega)
   obtain⟨s,hsk⟩:∃s,l[k]?=some s:=⟨_,xge hlt⟩
   obtain⟨c0,c1⟩:=hds k s hsk;have hv:=okV_each hok.out s (List.mem_of_getElem? hsk);have hst:=lhd (evs_take hsk);have hK:Hid (∀W,Below wr.heap.size wr W->W.cell? ⟨b,o+k * 2,none⟩=some (.int .i64 s.1)/\W.cell? ⟨b,o+k * 2+1,none⟩=some (.int .i64 s.2)):=fun W hW=>by
    obtain⟨b',o',e,-,hds'⟩:=SeesS.at_ (Sees.below hu.out ((bgo hb.out hW).mono hB)) (by omega);cases e;exact hds' k s hsk
   obtain⟨lo,hi⟩:=s;unfold vS at hv;rw[decide_eq_true_iff] at hv;dsimp only at c0 c1 hst hv hK;obtain⟨v1,v2,v3⟩:=hv;have i0:(k:Int)<(l.length:Int):=by omega
   have i1:(0:Int)<=(k:Int):=by omega
   have e1:IntKind.i64.wrap (hi+1)=hi+1:=by rw[xwi];omega
   have hp1:Hid (∀W,Below wr.heap.size wr W->Calls prog 293 #[.slice As cs.length cc,.int .i64 lo] W (PutP cs lo W)):=fun W hW=>qput_any _ _ cs lo W (Sees.below hs.out hW) hW.size (by omega) hC.out.asc
   replace hsk:=lhd hsk;clear hds
   go_upto_region 5 with (fail)
   go_region_held3 (fun W=>W.cell? ⟨b,o+k * 2,none⟩=some (.int .i64 lo)/\W.cell? ⟨b,o+k * 2+1,none⟩=some (.int .i64 hi)) (first | exact hK.out _ (by (repeat (first | exact Below.refl _ _ | (refine bgo ?_ (balloc _ _)) | (refine bgo ?_ (bdrew _)) | (refine bgo ?_ (by assumption))))))
    (first
     | ((with_reducible refine (hp1.out _ (by (repeat (first | exact Below.refl _ _ | (refine bgo ?_ (balloc _ _)) | (refine bgo ?_ (bdrew _)) | (refine bgo ?_ (by assumption)))))).mono ?_);rintro e w1 ⟨u1,l1,rfl,s1,p1,m1,n1,b1⟩;obtain⟨A1,cx1,rfl,-,-⟩:=QSeesI.mk_ s1)
     | ((with_reducible refine (qput_any w1.heap.size _ l1 (hi+1) w1 (Lit.sees s1) nlr (Nat.le_trans n1 (by omega)) p1).mono ?_);rintro e w2 ⟨u2,l2,rfl,s2,p2,m2,n2,b2⟩;obtain⟨A2,cx2,rfl,-,-⟩:=QSeesI.mk_ s2))
   have hC2:Hid (Cuts (l.take (k+1)) l2):=Cuts.step hC.out hst.out m1 m2 p2;have hl2:Hid (l2.length<=2 * (k+1)):=by show _<=_;omega
   have hb2:Hid (Below w.heap.size w w2):=bgo hb.out (bgo (bgo (bdrew _) b1) b2);replace s2:=lhd s2
   rename_i hHeld
   clear hHeld c0 c1 p1 p2 n1 n2 m1 m2 b1 b2 s1 hp1 hK
   go_wp2_with fail
   go_roundw
   case rel=>exact⟨k+1,l2,by omega,by go_num,hl2.out,s2,hC2,hb2⟩
   case measure=>simp[intOf];omega
  have i0:¬(k:Int)<(l.length:Int):=by omega
  rw[xtl (by omega)] at hC;have hcl2:Hid (cs.length<=2 * l.length):=by show _<=_;omega
  go_wp2_with fail
  go_returns
  exact⟨_,cs,rfl,hs.out,hC.out,hcl2.out,hb.out⟩
end Go.Proofs.YtjgepckncogdaaaGreat
namespace Go.Proofs.YtjgepckncogdaaaGreat
open Go Go.RowKit _root_.Go.Proofs.Tryz
attribute [local go_sem ↓] Go.wp_at_zero Go.wp_at_succ
def Lit3 (W:World) (u:Value) (p:Int × Int × Int):Prop:=Sees W W.heap.size u 3 1 [.int .i64 p.1,.int .i64 p.2.1,.int .i64 p.2.2]
theorem Lit3.drew {W:World} {u:Value} {p:Int × Int × Int} (h:Lit3 W u p):Lit3 W.drew u p:=(Sees.below h (bdrew _)).more (bdrew _).size
theorem Lit3.new {W:World} {G:Nat} (p:Int × Int × Int) (hG:W.heap.size=G):Lit3 (W.alloc (.cells #[.int .i64 p.1,.int .i64 p.2.1,.int .i64 p.2.2] 265)) (.slice (some ⟨G,0,none⟩) 1 1) p:=by
 subst hG;unfold Lit3;rw[xsa];exact rec_lit W 265 [.int .i64 p.1,.int .i64 p.2.1,.int .i64 p.2.2]
theorem OwnP.shape {w:World} {base:Nat} {v:Value} {l:List (Int × Int × Int)} (h:OwnP w base v l):∃A n c,v=.slice A n c:=by
 obtain⟨A,c,e,-,-⟩:=(Sees.of_own h).mk_;exact⟨A,_,c,e⟩
theorem step_appP {ops:Array Oper} {o:Oper} {a:Act} {w:World} {K:Act->World->Prop} {Q:Exit->Act->World->Prop} {X:Prop} (hgd:o.guard=none) (s x:Operand)
 (ho:o.op=.call { callee:=.builtin .append,args:=#[s,x],argTypes:=#[262,262] })
 (base:Nat) (v:Value) (m:Nat) (out:List (Int × Int × Int)) (hs:a.eval s=v) (hown:w.ownsRow base 265 3 v m (pcV out)) (hm:out.length=m) (u:Value) (p:Int × Int × Int) (hx:a.eval x=u) (hr:Lit3 w u p) (hlen:m<=100000) (hbase:base<=w.heap.size)
 (h:∀v' w',OwnP w' base v' (out++[p])->w.grownBy w' v.ownBlock->K (a.put o.dst v') w'):if Region.wanted o (yielded ops a.tmps)=true then Oper.wp prog o a w K Q else X:=by
 have hw:Region.wanted o (yielded ops a.tmps)=true:=by simp[Region.wanted,hgd]
 rw[if_pos hw];obtain⟨i,hi,hz,hsz,hby⟩:=info_parts piece_info;refine wp_append_sees s x 262 ho base 265 i _ 3 24 underlying262 hi hz hsz hby rfl (by omega) v m (pcV out) hs hown w.heap.size u 1 _ hx hr (by simp[Value.oneCell']) (by unfold maxLen;omega) (by omega) hbase ?_;intro v' w' g1 g2 g3;exact h v' w' (ownP_push hm g1) g2
def ProfP (l:List Sp) (w:World) (e:Ending) (w':World):Prop:=∃v ps,e=.returned (.tuple #[v,.int .i64 0])/\OwnP w' w.heap.size v ps/\PAll l ps/\ps.length<=128/\PB ps/\Below w.heap.size w w'
theorem prof_done {l:List Sp} {w w':World} {v:Value} {ps:List (Int × Int × Int)} {c:List Int} {k B:Nat} (hC:Cuts l c) (hi:CI l c k ps) (hk:k+1=c.length) (hl:ps.length<=k) (hc:c.length<=128) (hb:PB ps) (ho:OwnP w' B v ps) (hB:w.heap.size<=B) (hbw:Below w.heap.size w w'):ProfP l w (.returned (.tuple #[v,.int .i64 0])) w':=
 ⟨v,ps,rfl,row_mono ho hB,hi.all hC hk,by omega,hb,hbw⟩
theorem profile_any (B:Nat) (u:Value) (l:List Sp) (w:World) (hu:SeesS w B u l) (hB:B<=w.heap.size) (hn:l.length<=64) (h0:0<l.length) (hok:okV l=true) :
 Calls prog 236 #[u] w (ProfP l w):=by
 have hck:=qrcheck_any B u l w hu hB hn;have hcu:=lhd (fun W (hb:Below w.heap.size w W)=>cuts_any B u l W (SeesS.below hu (hb.mono hB)) (Nat.le_trans hB hb.size) hn hok);have hct:=lhd (fun t W (hb:Below w.heap.size w W)=>rcount_any B u l t W (SeesS.below hu (hb.mono hB)) (Nat.le_trans hB hb.size) hn hok);obtain⟨A,c,rfl,-,-⟩:=hu.mk_;unfold chkC at hck;rw[hok] at hck;replace hck:=lhd hck;replace hok:=lhd hok;clear hu
 go_enter func236,ntmps236
 go_wp2_with fail
 refine hck.out.mono ?_;rintro e w1 ⟨rfl,hb1⟩;have hcu1:=lhd (hcu.out w1 hb1);replace hb1:=lhd hb1;clear hck hcu;dsimp only;simp only[if_true]
 go_wp2_with fail
 refine hcu1.out.mono ?_;rintro e W0 ⟨v,cs,rfl,hs0,hC,hcl,hb2⟩;obtain⟨Ac,cc,rfl,-,-⟩:=QSeesI.mk_ hs0;have hb0:Hid (Below w.heap.size w W0):=bgo hb1.out hb2;have hz0:Hid (w.heap.size<=W0.heap.size):=hb0.out.size;have hcn:0<cs.length:=hC.ne h0;have hcb:=lhd (hC.bound hok.out);have hcl2:cs.length<=128:=by omega
 replace hs0:=lhd hs0;have hst:=lhd (CI.start hC hok.out);replace hC:=lhd hC;clear hcu1 hb1 hb2 hcl;dsimp only
 go_wp2_with fail
 go_loopw [6,7,8,9,49,52] (fun s i _ _ _ _ wr=>∃(k:Nat) (out:List (Int × Int × Int)),k+1<=cs.length/\i=.int .i64 k/\out.length<=k/\Hid (OwnP wr W0.heap.size s out)/\Hid (CI l cs k out)/\Hid (PB out)/\Hid (Below W0.heap.size W0 wr)) (fun _ i _ _ _ _ _=>cs.length - (intOf i).toNat)
 case atStart=>exact⟨0,[],by omega,rfl,by simp,World.ownsRow_nil _ _ _ _,hst.out,(fun p hp=>absurd hp (by simp)),Below.refl _ _⟩
 case round=>
  obtain⟨k,out,hk,rfl,hol,hs,hi,hpb,hb⟩:=hrel;obtain⟨As,css,rfl,-,-⟩:=(Sees.of_own hs.out).mk_
  by_cases hlt:k+1<cs.length
  ·obtain⟨x,hx⟩:∃x,cs[k]?=some x:=⟨_,xge (by omega)⟩
   obtain⟨y,hy⟩:∃y,cs[k+1]?=some y:=⟨_,xge hlt⟩
   have hxb:=hcb.out x (List.mem_of_getElem? hx);have hyb:=hcb.out y (List.mem_of_getElem? hy);have hxy:=hC.out.at_lt hx hy (by omega);have hsk:Hid (cnt l x=0->CI l cs (k+1) out):=fun h=>CI.skip hC.out hok.out hx hy h hi.out
   have hpu:Hid (CI l cs (k+1) (out++[(x,y - 1,(cnt l x:Int))])):=CI.push hC.out hok.out hx hy hi.out;have hjo:Hid (∀ini q,out=ini++[q]->q.2.1+1=x->q.2.2=(cnt l x:Int)->CI l cs (k+1) (ini++[(q.1,y - 1,q.2.2)])):=fun ini q e h h'=>CI.join hC.out hok.out hx hy h h' (e ▸ hi.out)
   have hqb:Hid (∀ini q,out=ini++[q]->-1152921504606846976<=q.2.1/\q.2.1<x):=fun ini q e=>by
    have h3:=(hi.out x hx).2.1 q (by rw[e];simp);have h4:=hpb.out q (by rw[e];simp);exact⟨by omega,h3.2.1⟩
   obtain⟨b,o,rfl,hbB,hds⟩:=QSeesI.at_ (Sees.below hs0.out hb.out) (by omega);have hKy:Hid (∀W,Below wr.heap.size wr W->W.cell? ⟨b,o+k,none⟩=some (.int .i64 x)/\W.cell? ⟨b,o+(k+1),none⟩=some (.int .i64 y)):=fun W hW=>by
    obtain⟨b',o',e,-,hds'⟩:=QSeesI.at_ (Sees.below hs0.out (bgo hb.out hW)) (by omega);cases e;exact⟨hds' k x hx,hds' (k+1) y hy⟩
   have hKz:Hid (∀W,Below W0.heap.size W0 W->W.cell? ⟨b,o+k,none⟩=some (.int .i64 x)/\W.cell? ⟨b,o+(k+1),none⟩=some (.int .i64 y)):=fun W hW=>by
    obtain⟨b',o',e,-,hds'⟩:=QSeesI.at_ (Sees.below hs0.out hW) (by omega);cases e;exact⟨hds' k x hx,hds' (k+1) y hy⟩
   have z0:=hds k x hx;have hcx:=lhd (hct.out x wr (bgo hb0.out hb.out));have hn0:=cnt_le l x;obtain⟨n0,hn0'⟩:∃n0,cnt l x=n0:=⟨_,rfl⟩
   rw[hn0'] at hsk hpu hjo hcx hn0;obtain⟨hx1,hx2⟩:=hxb;obtain⟨hy1,hy2⟩:=hyb;have i0:(k:Int)+1<(cs.length:Int):=by omega
   have i1:(0:Int)<=(k:Int):=by omega
   have i2:(k:Int)<(cs.length:Int):=by omega
   replace hx:=lhd hx;replace hy:=lhd hy;replace hn0':=lhd hn0';have hpbn:Hid (-1152921504606846976<=x/\y - 1<=1152921504606846976/\(n0:Int)<=128):=by show _/\_;omega
   clear hds hi;obtain⟨m,hm⟩:∃m,out.length=m:=⟨_,rfl⟩
   have hsm:Hid (wr.ownsRow W0.heap.size 265 3 (.slice As m css) m (pcV out)):=by show World.ownsRow _ _ _ _ _ _ _;rw[<-hm];exact hs.out
   rw[hm] at hol ⊢;clear hs
   go_wp2_with fail
   refine hcx.out.mono ?_;rintro e W1 ⟨rfl,hb1⟩;replace hsm:=lhd (own_below hsm.out hb1);obtain⟨z0',z1⟩:=hKy.out W1 hb1;have hKy1:Hid (∀W,Below W1.heap.size W1 W->W.cell? ⟨b,o+k,none⟩=some (.int .i64 x)/\W.cell? ⟨b,o+(k+1),none⟩=some (.int .i64 y)):=fun W hW=>hKy.out W (bgo hb1 hW)
   replace hb:=lhd (bgo hb.out hb1);clear hb1 hKy z0 hcx;dsimp only
   by_cases hz:n0=0
   ·replace hsk:=lhd (hsk.out hz)
    subst hz;clear hpu hjo hqb;have hsz:Hid (OwnP W1 W0.heap.size (.slice As m css) out):=by show World.ownsRow _ _ _ _ _ _ _;rw[hm];exact hsm.out
    replace hm:=lhd hm
    go_wp2_with fail
    go_roundw
    case rel=>exact⟨k+1,out,by omega,by go_num,by rw[hm.out];omega,hsz,hsk,hpb,hb⟩
    case measure=>simp[intOf];omega
   clear hsk;have i5:((n0:Int) == 0)=false:=by rw[beq_eq_false_iff_ne];omega
   have e4:IntKind.i64.wrap (y - 1)=y - 1:=by rw[xwi];omega
   have e1:IntKind.i64.wrap ((k:Int)+1)=(k:Int)+1:=by rw[xwi];omega
   have e2:((k:Int)+1).toNat=k+1:=by omega
   have e3:(0:Int)<=(k:Int)+1:=by omega
   rcases last_split out with rfl|⟨ini,q,rfl⟩
   ·obtain rfl:m=0:=by simpa using hm.symm
    replace hm:=lhd hm;clear hjo hqb
    go_upto_region 12 with (fail)
    go_quiet (fail)
    have hdr:=below_drewN (Below.refl W1.heap.size W1) nq;replace hsm:=lhd (own_below hsm.out hdr);replace hb:=lhd (bgo hb.out hdr);have hKy:Hid (∀W,Below (W1.drewN nq).heap.size (W1.drewN nq) W->W.cell? ⟨b,o+k,none⟩=some (.int .i64 x)/\W.cell? ⟨b,o+(k+1),none⟩=some (.int .i64 y)):=fun W hW=>hKy1.out W (bgo hdr hW)
    clear hdr z0' z1 hKy1;generalize W1.drewN nq=W4 at *;obtain⟨z0,z1⟩:=hKy.out W4 (Below.refl _ _);have hlt2:Hid (∀j,(Value.slice As (0) css).ownBlock=some j->W0.heap.size<=j):=fun j hj=>(hsm.out.lt j hj).1
    go_upto_region 10 with (fail)
    have hb3:True:=trivial
    go_region_held3 (fun W=>W.cell? ⟨b,o+k,none⟩=some (.int .i64 x)/\W.cell? ⟨b,o+(k+1),none⟩=some (.int .i64 y)) (first | exact hKz.out _ (Hid.out hb3) | exact hKz.out _ (bgo hb.out (by (repeat (first | exact Below.refl _ _ | (refine bgo ?_ (balloc _ _)) | (refine bgo ?_ (bdrew _)) | (refine bgo ?_ (by assumption)))))))
     ((refine step_appP (by rfl) (.tmp 33) (.tmp 47) (by rfl) W0.heap.size (.slice As (0) css) (0) [] (by rfl) (own_below hsm.out (by (repeat (first | exact Below.refl _ _ | (refine bgo ?_ (balloc _ _)) | (refine bgo ?_ (bdrew _)) | (refine bgo ?_ (by assumption)))))) hm.out (.slice (some ⟨W4.heap.size,0,none⟩) 1 1) (x,y - 1,(n0:Int)) (by rfl) ?_ (by omega) (Nat.le_trans hb.out.size (Below.size (B:=W4.heap.size) (by (repeat (first | exact Below.refl _ _ | (refine bgo ?_ (balloc _ _)) | (refine bgo ?_ (bdrew _)) | (refine bgo ?_ (by assumption))))))) ?_;(· (repeat (first | (with_reducible refine Lit3.drew ?_) | (with_reducible refine Lit3.new (x,y - 1,(n0:Int)) ?_) | (with_reducible rfl) | (simp;done))));intro v3 w3 s3 g3;obtain⟨A9,n9,c9,rfl⟩:=s3.shape;have hb3:=lhd (bgrowO (bgo hb.out (by (repeat (first | exact Below.refl _ _ | (refine bgo ?_ (balloc _ _)) | (refine bgo ?_ (bdrew _)) | (refine bgo ?_ (by assumption)))))) g3 hlt2.out (Below.size (B:=W0.heap.size) (bgo hb.out (by (repeat (first | exact Below.refl _ _ | (refine bgo ?_ (balloc _ _)) | (refine bgo ?_ (bdrew _)) | (refine bgo ?_ (by assumption))))))))))
    rename_i hHeld
    clear hHeld;replace s3:=lhd s3;clear g3 hsm hb hlt2 hKy hKz z0 z1
    go_wp2_with fail
    go_roundw
    case rel=>exact⟨k+1,[]++[(x,y - 1,(n0:Int))],by omega,by go_num,len_push (by rw[hm.out];omega) _,s3,hpu,PB.push hpb.out hpbn.out,hb3⟩
    case measure=>simp[intOf];omega
   obtain⟨j,hj⟩:∃j,ini.length=j:=⟨_,rfl⟩
   obtain rfl:m=j+1:=by rw[xla,hj] at hm;simpa using hm.symm
   obtain⟨q1,q2⟩:=hqb.out ini q rfl;have hjo':=hjo.out ini q rfl;obtain⟨g5,c5,e5,g5B,g5l,-,-,hc5⟩:=own_form hsm.out (by omega);injection e5 with e5 _ e5';subst e5 e5';have hcs:=pcV_get (ini++[q]) j q (by rw[<-hj];simp);have d1:W1.cell? ⟨g5,j * 3+1,none⟩=some (.int .i64 q.2.1):=hc5 _ _ hcs.2.1;have d2:W1.cell? ⟨g5,j * 3+2,none⟩=some (.int .i64 q.2.2):=hc5 _ _ hcs.2.2;have hpj:Hid (PB (ini++[(q.1,y - 1,q.2.2)])):=PB.join hpb.out (by omega);obtain⟨qa,qb,qc⟩:=q;dsimp only at q1 q2 hjo' d1 d2 hpj;replace hjo':=lhd hjo';have e5:IntKind.i64.wrap (((j+1:Nat):Int) - 1)=(j:Int):=by rw[xwi];omega
   have e5'':IntKind.i64.wrap (j:Int)=(j:Int):=by rw[xwi];omega
   have e6:IntKind.i64.wrap (qb+1)=qb+1:=by rw[xwi];omega
   have i6:(0:Int)<=(j:Int):=by omega
   have i7:(j:Int)<((j+1:Nat):Int):=by omega
   replace hm:=lhd hm;replace hj:=lhd hj;clear hjo hqb hc5 hcs
   by_cases hq1:qc=(n0:Int)
   ·have i8:(qc == (n0:Int))=true:=by simpa using hq1
    replace hq1:=lhd hq1
    by_cases hq2:qb+1=x
    ·have i9:(qb+1 == x)=true:=by simpa using hq2
     replace hq2:=lhd hq2
     go_upto_region 12 with (fail)
     go_quiet (fail)
     clear i8 i9;have hdr:=below_drewN (Below.refl W1.heap.size W1) nq;replace hsm:=lhd (own_below hsm.out hdr);replace hb:=lhd (bgo hb.out hdr);have hKy:Hid (∀W,Below (W1.drewN nq).heap.size (W1.drewN nq) W->W.cell? ⟨b,o+k,none⟩=some (.int .i64 x)/\W.cell? ⟨b,o+(k+1),none⟩=some (.int .i64 y)):=fun W hW=>hKy1.out W (bgo hdr hW)
     clear hdr z0' z1 hKy1;generalize W1.drewN nq=W4 at *;obtain⟨z0,z1⟩:=hKy.out W4 (Below.refl _ _);have hset:=ownP_set hj.out hsm.out (y - 1);have f0:=hsm.out.frozenAt (j * 3+1);have d0:W4.cell? ⟨g5,j * 3+1,none⟩=some (.int .i64 qb):=by rw[hsm.out.cellAt _ (by omega)];exact (pcV_get _ j (qa,qb,qc) (by rw[<-hj.out];simp)).2.1
     have s3:=lhd hset.1;have hb3:=lhd (bgrow hb.out hset.2 g5B hb.out.size);clear hset hsm hb d1 d2
     go_wp2_with fail
     go_roundw
     case rel=>exact⟨k+1,ini++[(qa,y - 1,qc)],by omega,by go_num,by rw[xla,hj.out];simp;omega,s3,hjo'.out hq2.out hq1.out,hpj,hb3⟩
     case measure=>simp[intOf];omega
    have i9:(qb+1 == x)=false:=by simpa using hq2
    go_upto_region 12 with (fail)
    go_quiet (fail)
    clear d1 d2 i8 i9;have hdr:=below_drewN (Below.refl W1.heap.size W1) nq;replace hsm:=lhd (own_below hsm.out hdr);replace hb:=lhd (bgo hb.out hdr);have hKy:Hid (∀W,Below (W1.drewN nq).heap.size (W1.drewN nq) W->W.cell? ⟨b,o+k,none⟩=some (.int .i64 x)/\W.cell? ⟨b,o+(k+1),none⟩=some (.int .i64 y)):=fun W hW=>hKy1.out W (bgo hdr hW)
    clear hdr z0' z1 hKy1;generalize W1.drewN nq=W4 at *;obtain⟨z0,z1⟩:=hKy.out W4 (Below.refl _ _);have hlt2:Hid (∀j,(Value.slice (some ⟨g5,0,none⟩) (j+1) css).ownBlock=some j->W0.heap.size<=j):=fun j hj=>(hsm.out.lt j hj).1
    go_upto_region 10 with (fail)
    have hb3:True:=trivial
    go_region_held3 (fun W=>W.cell? ⟨b,o+k,none⟩=some (.int .i64 x)/\W.cell? ⟨b,o+(k+1),none⟩=some (.int .i64 y)) (first | exact hKz.out _ (Hid.out hb3) | exact hKz.out _ (bgo hb.out (by (repeat (first | exact Below.refl _ _ | (refine bgo ?_ (balloc _ _)) | (refine bgo ?_ (bdrew _)) | (refine bgo ?_ (by assumption)))))))
     ((refine step_appP (by rfl) (.tmp 33) (.tmp 47) (by rfl) W0.heap.size (.slice (some ⟨g5,0,none⟩) (j+1) css) (j+1) (ini++[(qa,qb,qc)]) (by rfl) (own_below hsm.out (by (repeat (first | exact Below.refl _ _ | (refine bgo ?_ (balloc _ _)) | (refine bgo ?_ (bdrew _)) | (refine bgo ?_ (by assumption)))))) hm.out (.slice (some ⟨W4.heap.size,0,none⟩) 1 1) (x,y - 1,(n0:Int)) (by rfl) ?_ (by omega) (Nat.le_trans hb.out.size (Below.size (B:=W4.heap.size) (by (repeat (first | exact Below.refl _ _ | (refine bgo ?_ (balloc _ _)) | (refine bgo ?_ (bdrew _)) | (refine bgo ?_ (by assumption))))))) ?_;(· (repeat (first | (with_reducible refine Lit3.drew ?_) | (with_reducible refine Lit3.new (x,y - 1,(n0:Int)) ?_) | (with_reducible rfl) | (simp;done))));intro v3 w3 s3 g3;obtain⟨A9,n9,c9,rfl⟩:=s3.shape;have hb3:=lhd (bgrowO (bgo hb.out (by (repeat (first | exact Below.refl _ _ | (refine bgo ?_ (balloc _ _)) | (refine bgo ?_ (bdrew _)) | (refine bgo ?_ (by assumption)))))) g3 hlt2.out (Below.size (B:=W0.heap.size) (bgo hb.out (by (repeat (first | exact Below.refl _ _ | (refine bgo ?_ (balloc _ _)) | (refine bgo ?_ (bdrew _)) | (refine bgo ?_ (by assumption))))))))))
    rename_i hHeld
    clear hHeld;replace s3:=lhd s3;clear g3 hsm hb hlt2 hKy hKz z0 z1
    go_wp2_with fail
    go_roundw
    case rel=>exact⟨k+1,(ini++[(qa,qb,qc)])++[(x,y - 1,(n0:Int))],by omega,by go_num,len_push (by rw[hm.out];omega) _,s3,hpu,PB.push hpb.out hpbn.out,hb3⟩
    case measure=>simp[intOf];omega
   have i8:(qc == (n0:Int))=false:=by simpa using hq1
   go_upto_region 12 with (fail)
   go_quiet (fail)
   clear d1 d2 i8;have hdr:=below_drewN (Below.refl W1.heap.size W1) nq;replace hsm:=lhd (own_below hsm.out hdr);replace hb:=lhd (bgo hb.out hdr);have hKy:Hid (∀W,Below (W1.drewN nq).heap.size (W1.drewN nq) W->W.cell? ⟨b,o+k,none⟩=some (.int .i64 x)/\W.cell? ⟨b,o+(k+1),none⟩=some (.int .i64 y)):=fun W hW=>hKy1.out W (bgo hdr hW)
   clear hdr z0' z1 hKy1;generalize W1.drewN nq=W4 at *;obtain⟨z0,z1⟩:=hKy.out W4 (Below.refl _ _);have hlt2:Hid (∀j,(Value.slice (some ⟨g5,0,none⟩) (j+1) css).ownBlock=some j->W0.heap.size<=j):=fun j hj=>(hsm.out.lt j hj).1
   go_upto_region 10 with (fail)
   have hb3:True:=trivial
   go_region_held3 (fun W=>W.cell? ⟨b,o+k,none⟩=some (.int .i64 x)/\W.cell? ⟨b,o+(k+1),none⟩=some (.int .i64 y)) (first | exact hKz.out _ (Hid.out hb3) | exact hKz.out _ (bgo hb.out (by (repeat (first | exact Below.refl _ _ | (refine bgo ?_ (balloc _ _)) | (refine bgo ?_ (bdrew _)) | (refine bgo ?_ (by assumption)))))))
    ((refine step_appP (by rfl) (.tmp 33) (.tmp 47) (by rfl) W0.heap.size (.slice (some ⟨g5,0,none⟩) (j+1) css) (j+1) (ini++[(qa,qb,qc)]) (by rfl) (own_below hsm.out (by (repeat (first | exact Below.refl _ _ | (refine bgo ?_ (balloc _ _)) | (refine bgo ?_ (bdrew _)) | (refine bgo ?_ (by assumption)))))) hm.out (.slice (some ⟨W4.heap.size,0,none⟩) 1 1) (x,y - 1,(n0:Int)) (by rfl) ?_ (by omega) (Nat.le_trans hb.out.size (Below.size (B:=W4.heap.size) (by (repeat (first | exact Below.refl _ _ | (refine bgo ?_ (balloc _ _)) | (refine bgo ?_ (bdrew _)) | (refine bgo ?_ (by assumption))))))) ?_;(· (repeat (first | (with_reducible refine Lit3.drew ?_) | (with_reducible refine Lit3.new (x,y - 1,(n0:Int)) ?_) | (with_reducible rfl) | (simp;done))));intro v3 w3 s3 g3;obtain⟨A9,n9,c9,rfl⟩:=s3.shape;have hb3:=lhd (bgrowO (bgo hb.out (by (repeat (first | exact Below.refl _ _ | (refine bgo ?_ (balloc _ _)) | (refine bgo ?_ (bdrew _)) | (refine bgo ?_ (by assumption)))))) g3 hlt2.out (Below.size (B:=W0.heap.size) (bgo hb.out (by (repeat (first | exact Below.refl _ _ | (refine bgo ?_ (balloc _ _)) | (refine bgo ?_ (bdrew _)) | (refine bgo ?_ (by assumption))))))))))
   rename_i hHeld
   clear hHeld;replace s3:=lhd s3;clear g3 hsm hb hlt2 hKy hKz z0 z1
   go_wp2_with fail
   go_roundw
   case rel=>exact⟨k+1,(ini++[(qa,qb,qc)])++[(x,y - 1,(n0:Int))],by omega,by go_num,len_push (by rw[hm.out];omega) _,s3,hpu,PB.push hpb.out hpbn.out,hb3⟩
   case measure=>simp[intOf];omega
  have hke:Hid (k+1=cs.length):=by show _=_;omega
  have i0:¬(k:Int)+1<(cs.length:Int):=by omega
  go_wp2_with fail
  go_returns
  exact prof_done hC.out hi.out hke.out hol hcl2 hpb.out hs.out hz0.out (bgo hb0.out hb.out)
theorem lit_n (W:World) (T:TypeId) (xs:List Value) (size n:Nat) (h:xs.length=n * size) (hn:n<=64):Sees (W.alloc (.cells xs.toArray T)) (W.heap.size+1) (.slice (some ⟨W.heap.size,0,none⟩) n n) size n xs:=
 ⟨h,_,n,rfl,Nat.le_refl _,by unfold maxLen;omega,fun _=>⟨W.heap.size,0,rfl,by omega,fun j u hj=>by have:=(Box.new W T xs).cell j;rw[Nat.zero_add,this,hj]⟩⟩
theorem sort_ev (g cap N:Nat) (l:List Sp) (base:Nat) (w:World) (hN:(evs l).length=N) (h:w.ownsRow base 290 2 (.slice (some ⟨g,0,none⟩) N cap) N (spV (evs l))) (hl:N<=128) :
 Calls prog 290 #[.slice (some ⟨g,0,none⟩) N cap,.func (.func 291) #[] #[]] w fun e w'=>e=.returned (.tuple #[])/\∃d,Evs l d/\d.length=N/\w'.ownsRow base 290 2 (.slice (some ⟨g,0,none⟩) N cap) N (spV d)/\w.grownBy w' (some g):=by
 subst hN;have eg:∀args w,(callFunc 291 args).run prog w=.ok (.enter 291 args) w:=enters_of func291 (by kernel_rfl) rfl;have hlt:g<w.heap.size:=(h.lt g rfl).2;have hcon:=AnyQ.slices_SortFunc Tryz.sortEv 2 Tryz.isAgg290 Tryz.sizeOf290 encE (fun _=>rfl) (fun x v hv=>by simp[encE] at hv;rcases hv with rfl | rfl<;>rfl) (fun x y=>Lib.compareInt x.1 y.1) swoE 291 #[] g 0 cap (evs l).toArray w eg (evLays g 0 (evs l).toArray.size w) (holds_own h) hlt (by simp;omega);have e0:(evs l).toArray.size=(evs l).length:=by simp
 rw[e0] at hcon;refine Calls.mono hcon ?_;rintro e w' ⟨he,d',n,os,h1,h2,rfl⟩;have hev:=evs_of (l:=l) (d':=d') (by rw[e0];exact h1) (by rw[e0];exact h2);have hsz:d'.size=(evs l).length:=by rw[<-e0];exact h1.1
 obtain⟨k1,k2⟩:=sorted_own h d' hsz n os;exact⟨he,d'.toList,hev,by rw[Array.length_toList,hsz],k1,k2⟩
theorem ev_done {l:List Sp} {w w':World} {v:Value} {d:List (Int × Int)} {N:Nat} (h:Evs l d) (hd:d.length=N) (ho:w'.ownsRow w.heap.size 290 2 v N (spV d)) (hb:Below w.heap.size w w'):EvP l w (.returned v) w':=by
 subst hd;exact⟨v,d,rfl,ho,h,hb⟩
theorem events_any (B:Nat) (u:Value) (l:List Sp) (w:World) (hu:SeesS w B u l) (hB:B<=w.heap.size) (hn:l.length<=64) (h0:0<l.length) (hok:okV l=true) :
 Calls prog 273 #[u] w (EvP l w):=by
 obtain⟨A,c,rfl,-,-⟩:=hu.mk_;obtain⟨ti,hti,htz,hts,htb⟩:=info_parts event_info;replace hti:=lhd hti;replace htz:=lhd htz;replace hts:=lhd hts;replace htb:=lhd htb;replace hok:=lhd hok;replace hu:=lhd hu;have hz:Hid (w.heap.size<=w.heap.size):=Nat.le_refl _
 go_enter func273,ntmps273
 go_wp2_with fail
 go_loopw [3,5,8] (fun s _ i wr=>∃k:Nat,k<=l.length/\i=.int .i64 k/\Hid (wr.ownsRow w.heap.size 290 2 s (2 * k) (spV (evs (l.take k))))/\Hid (Below w.heap.size w wr)) (fun _ _ i _=>l.length - (intOf i).toNat)
 case atStart=>exact⟨0,by omega,rfl,World.ownsRow_nil _ _ _ _,Below.refl _ _⟩
 case round=>
  obtain⟨k,hk,rfl,hs,hb⟩:=hrel;obtain⟨As,cs,rfl,-,-⟩:=(Sees.of_own hs.out).mk_
  by_cases hlt:k<l.length
  ·obtain⟨b,o,rfl,hbB,hds⟩:=SeesS.at_ (Sees.below hu.out (hb.out.mono hB)) (by omega)
   obtain⟨s,hsk⟩:∃s,l[k]?=some s:=⟨_,xge hlt⟩
   obtain⟨c0,c1⟩:=hds k s hsk;have hv:=okV_each hok.out s (List.mem_of_getElem? hsk);have hst:=lhd (evs_take hsk);obtain⟨lo,hi⟩:=s;unfold vS at hv;rw[decide_eq_true_iff] at hv;dsimp only at c0 c1 hst hv;obtain⟨v1,v2,v3⟩:=hv;have i0:(k:Int)<(l.length:Int):=by omega
   have i1:(0:Int)<=(k:Int):=by omega
   have x5:=Box.new wr 24 [.int .i64 lo,.int .i64 hi];change Box (wr.alloc (.cells #[.int .i64 lo,.int .i64 hi] 24)) _ _ _ at x5;have hal:=balloc wr (.cells #[.int .i64 lo,.int .i64 hi] 24);replace hs:=lhd (own_below hs.out hal);replace hb:=lhd (bgo hb.out hal);replace hsk:=lhd hsk;clear hal hds
   go_upto_region 5 with (fail)
   generalize wr.alloc (.cells #[.int .i64 lo,.int .i64 hi] 24)=W1 at *;generalize wr.heap.size=g5 at *;clear c0 c1;obtain⟨y0,y1⟩:=boxT2 x5;have hrec:Hid (Sees (W1.alloc (.cells #[.int .i64 lo,.int .i64 1,.int .i64 (hi+1),.int .i64 (-1)] 290)) (W1.heap.size+1) (.slice (some ⟨W1.heap.size,0,none⟩) 2 2) 2 2 [.int .i64 lo,.int .i64 1,.int .i64 (hi+1),.int .i64 (-1)]):=lit_n W1 290 [.int .i64 lo,.int .i64 1,.int .i64 (hi+1),.int .i64 (-1)] 2 2 rfl (by omega);have hal:=balloc W1 (.cells #[.int .i64 lo,.int .i64 1,.int .i64 (hi+1),.int .i64 (-1)] 290);replace hs:=lhd (own_below hs.out hal);replace hb:=lhd (bgo hb.out hal);have hzz:Hid (w.heap.size<=(W1.alloc (.cells #[.int .i64 lo,.int .i64 1,.int .i64 (hi+1),.int .i64 (-1)] 290)).heap.size):=hb.out.size;have hlt2:Hid (∀j,(Value.slice As (2 * k) cs).ownBlock=some j->w.heap.size<=j):=fun j hj=>(hs.out.lt j hj).1
   clear hal x5
   go_wp2_with (at_builtin;refine wpList_append_sees (by rfl) _ _ 287 rfl w.heap.size 290 ti _ 2 16 underlying287 hti.out htz.out hts.out htb.out rfl (by omega) _ (2 * k) _ rfl hs.out _ _ 2 _ rfl hrec.out (by simp[Value.oneCell']) (by unfold maxLen;omega) (by omega) hzz.out ?_)
   intro v3 w3 s3 g3 d3;replace s3:Hid (w3.ownsRow w.heap.size 290 2 v3 (2 * (k+1)) (spV (evs (l.take (k+1))))):=by
    show World.ownsRow _ _ _ _ _ _ _;rw[hst.out,spV_append];exact s3
   have hb3:=lhd (bgrowO hb.out g3 hlt2.out hzz.out);clear g3 d3 hs hrec y0 y1 hzz hlt2 hb
   go_wp2_with fail
   go_roundw
   case rel=>exact⟨k+1,by omega,by go_num,s3,hb3⟩
   case measure=>simp[intOf];omega
  obtain rfl:k=l.length:=by omega
  have i0:¬(l.length:Int)<(l.length:Int):=by omega
  rw[xtl (by omega)] at hs;obtain⟨g,cap,e5,gB,-,-,-,-⟩:=own_form hs.out (by omega);injection e5 with e5 _ e5';subst e5 e5';have hsort:=lhd (sort_ev g cs (2 * l.length) l w.heap.size wr (evs_len l) hs.out (by omega));clear hs
  go_wp2_with fail
  refine hsort.out.mono ?_;rintro e w2 ⟨rfl,d,hE,hd,ho,hg⟩;replace hd:=lhd hd;have hb2:=lhd (bgrow hb.out hg gB hb.out.size);replace ho:=lhd ho;dsimp only
  go_wp2_with fail
  go_returns
  exact ev_done hE hd.out ho.out hb2.out
end Go.Proofs.YtjgepckncogdaaaGreat
namespace Go.Proofs.YtjgepckncogdaaaGreat
open Go Go.RowKit _root_.Go.Proofs.Tryz
attribute [local go_sem ↓] Go.wp_at_zero Go.wp_at_succ
def LeastP2 (l:List Sp) (n:Int) (w:World) (e:Ending) (w':World):Prop:=∃v out,e=.returned (.tuple #[v,.int .i64 0])/\OwnS w' w.heap.size v out/\LAll l n out/\out.length<=128/\Below w.heap.size w w'
end Go.Proofs.YtjgepckncogdaaaGreat
namespace Go.Proofs.YtjgepckncogdaaaGreat
open Go Go.RowKit _root_.Go.Proofs.Tryz
attribute [local go_sem ↓] Go.wp_at_zero Go.wp_at_succ
def HullP (l:List Sp) (n:Int) (w:World) (e:Ending) (w':World):Prop:=∃o:Option Sp,IsHull l n o/\e=.returned (.tuple #[.agg #[.int .i64 (o.getD (0,0)).1,.int .i64 (o.getD (0,0)).2],.int .i64 (if o.isSome then 0 else 21)])/\Below w.heap.size w w'
theorem hull_no {l:List Sp} {n:Int} {w w':World} (h:LAll l n []) (hb:Below w.heap.size w w'):HullP l n w (.returned (.tuple #[.agg #[.int .i64 0,.int .i64 0],.int .i64 21])) w':=⟨none,h.none,rfl,hb⟩
theorem hull_yes {l:List Sp} {n:Int} {w w':World} {out:List Sp} {a b:Sp} (h:LAll l n out) (ha:out[0]?=some a) (hb':out[out.length - 1]?=some b) (hb:Below w.heap.size w w'):HullP l n w (.returned (.tuple #[.agg #[.int .i64 a.1,.int .i64 b.2],.int .i64 0])) w':=⟨some (a.1,b.2),h.some ha hb',rfl,hb⟩
end Go.Proofs.YtjgepckncogdaaaGreat
namespace Go.Proofs.YtjgepckncogdaaaGreat
open Go Go.RowKit _root_.Go.Proofs.Tryz
attribute [local go_sem ↓] Go.wp_at_zero Go.wp_at_succ
theorem ins_nil (f:Value) (w:World):Calls prog 308 #[.slice none 0 0,.int .i64 0,.int .i64 0,f] w fun e w'=>e=.returned (.tuple #[])/\w'=w:=by
 go_enter func308,ntmps308
 go_wp2_with fail
 go_loopw [8] (fun i wr=>i=.int .i64 1/\wr=w) (fun _ _=>0)
 case atStart=>exact⟨rfl,rfl⟩
 case round=>
  obtain⟨rfl,hw⟩:=hrel;obtain rfl:=hw
  go_wp2_with fail
  go_returns
  exact⟨rfl,rfl⟩
theorem pdq_nil (f:Value) (x:Int) (w:World):Calls prog 304 #[.slice none 0 0,.int .i64 0,.int .i64 0,.int .i64 x,f] w fun e w'=>e=.returned (.tuple #[])/\w'=w:=by
 go_enter func304,ntmps304
 go_wp2_with fail
 go_loopw [1,2,3,10,11] (fun a b l c d wr=>a=.int .i64 0/\b=.int .i64 0/\l=.int .i64 x/\wr=w) (fun _ _ _ _ _ _=>0)
 case atStart=>exact⟨rfl,rfl,rfl,rfl⟩
 case round=>
  obtain⟨rfl,rfl,rfl,hw⟩:=hrel;obtain rfl:=hw
  go_wp2_with fail
  refine (ins_nil f _).mono ?_;rintro e w1 ⟨rfl,rfl⟩;dsimp only
  go_wp2_with fail
  go_returns
  exact⟨rfl,rfl⟩
theorem sort_nil (f:Value) (w:World):Calls prog 290 #[.slice none 0 0,f] w fun e w'=>e=.returned (.tuple #[])/\w'=w:=by
 have hl:=lhd (Tryz.bits_Len 0 w (by omega) (by omega))
 go_enter func290,ntmps290
 go_wp2_with fail
 refine hl.out.mono ?_;rintro e w1 ⟨rfl,rfl⟩;dsimp only
 go_wp2_with fail
 refine (pdq_nil f _ _).mono ?_;rintro e w2 ⟨rfl,rfl⟩;dsimp only
 go_wp2_with fail
 exact bodyPost_end (v:=.tuple #[]) (results_none (by kernel_rfl) _ _ _) rfl ⟨rfl,rfl⟩
theorem events_nil (w:World):Calls prog 273 #[.slice none 0 0] w (EvP [] w):=by
 go_enter func273,ntmps273
 go_wp2_with fail
 go_loopw [3,5,8] (fun s _ i wr=>s=.slice none 0 0/\i=.int .i64 0/\wr=w) (fun _ _ _ _=>0)
 case atStart=>exact⟨rfl,rfl,rfl⟩
 case round=>
  obtain⟨rfl,rfl,hw⟩:=hrel;obtain rfl:=hw
  go_wp2_with fail
  refine (sort_nil _ _).mono ?_;rintro e w1 ⟨rfl,rfl⟩;dsimp only
  go_wp2_with fail
  go_returns
  exact⟨_,[],rfl,World.ownsRow_nil _ _ _ _,⟨List.Perm.refl _,List.Pairwise.nil⟩,Below.refl _ _⟩
end Go.Proofs.YtjgepckncogdaaaGreat
namespace Go.Proofs.YtjgepckncogdaaaGreat
open Go Go.RowKit _root_.Go.Proofs.Tryz
attribute [local go_sem ↓] Go.wp_at_zero Go.wp_at_succ
theorem eventsE_any (B:Nat) (u:Value) (l:List Sp) (w:World) (hu:SeesS w B u l) (hB:B<=w.heap.size) (hn:l.length<=64) (h0:0<l.length\/l=[]/\u=.slice none 0 0) (hok:okV l=true) :
 Calls prog 273 #[u] w (EvP l w):=by
 rcases h0 with h0|⟨rfl,rfl⟩
 ·exact events_any B u l w hu hB hn h0 hok
 exact events_nil w
theorem profile_nil (w:World):Calls prog 236 #[.slice none 0 0] w (ProfP [] w):=by
 have hu:SeesS w w.heap.size (.slice none 0 0) []:=Sees.nil _ _ _;have hck:=qrcheck_any w.heap.size (.slice none 0 0) [] w hu nlr (by simp);have hcu:=lhd (fun W (hb:Below w.heap.size w W)=>cuts_any w.heap.size (.slice none 0 0) [] W (SeesS.below hu hb) hb.size (by simp) rfl);rw[show chkC []=0 by rfl] at hck;replace hck:=lhd hck;clear hu
 go_enter func236,ntmps236
 go_wp2_with fail
 refine hck.out.mono ?_;rintro e w1 ⟨rfl,hb1⟩;have hcu1:=lhd (hcu.out w1 hb1);replace hb1:=lhd hb1;clear hck hcu;dsimp only
 go_wp2_with fail
 refine hcu1.out.mono ?_;rintro e W0 ⟨v,cs,rfl,hs0,hC,hcl,hb2⟩;obtain rfl:cs=[]:=List.eq_nil_of_length_eq_zero (by simpa using hcl);obtain⟨Ac,cc,rfl,-,-⟩:=QSeesI.mk_ hs0;have hb0:Hid (Below w.heap.size w W0):=bgo hb1.out hb2;clear hcu1 hs0 hC hcl hb1 hb2;dsimp only;simp only[List.length_nil]
 go_wp2_with fail
 go_loopw [6,7,8,9,49,52] (fun s i _ _ _ _ wr=>s=.slice none 0 0/\i=.int .i64 0/\wr=W0) (fun _ _ _ _ _ _ _=>0)
 case atStart=>exact⟨rfl,rfl,rfl⟩
 case round=>
  obtain⟨rfl,rfl,hw⟩:=hrel;obtain rfl:=hw
  go_wp2_with fail
  go_returns
  exact⟨_,[],rfl,World.ownsRow_nil _ _ _ _,⟨List.Pairwise.nil,fun a ha=>absurd ha (by simp),fun t ht=>by simp[cnt] at ht⟩,by simp,fun p hp=>absurd hp (by simp),hb0.out⟩
theorem profileE_any (B:Nat) (u:Value) (l:List Sp) (w:World) (hu:SeesS w B u l) (hB:B<=w.heap.size) (hn:l.length<=64) (h0:0<l.length\/l=[]/\u=.slice none 0 0) (hok:okV l=true) :
 Calls prog 236 #[u] w (ProfP l w):=by
 rcases h0 with h0|⟨rfl,rfl⟩
 ·exact profile_any B u l w hu hB hn h0 hok
 exact profile_nil w
theorem sleastE_any (B:Nat) (u:Value) (l:List Sp) (n:Int) (w:World) (hu:SeesS w B u l) (hB:B<=w.heap.size) (hn:l.length<=64) (h0:0<l.length\/l=[]/\u=.slice none 0 0) (hok:okV l=true) (h1:1<=n) (h2:n<=1000) :
 Calls prog 107 #[u,.int .i64 n] w (LeastP2 l n w):=by
 have hck:=scheck_any B u l w hu hB hn;have hle:=lhd (fun W (hb:Below w.heap.size w W)=>have hW:=SeesS.below hu (hb.mono hB);have hBW:=Nat.le_trans hB hb.size;least_any B u l n W hW hBW hn hok h1 h2 (pieces_any B u l W hW hBW hn hok (eventsE_any B u l W hW hBW hn h0 hok)));obtain⟨A,c,rfl,-,-⟩:=hu.mk_;unfold chkC at hck;rw[hok] at hck;replace hck:=lhd hck;replace hok:=lhd hok;clear hu
 go_enter func107,ntmps107
 go_wp2_with fail
 refine hck.out.mono ?_;rintro e w1 ⟨rfl,hb⟩;have hl1:=lhd (hle.out w1 hb);replace hb:=lhd hb;clear hck hle;dsimp only;simp only[if_true]
 go_wp2_with fail
 refine hl1.out.mono ?_;rintro e w2 ⟨v,out,rfl,ho,hA,hl,hb2⟩;replace ho:=lhd ho;replace hA:=lhd hA;replace hl:=lhd hl;replace hb2:=lhd hb2;dsimp only
 go_wp2_with fail
 go_returns
 exact⟨v,out,rfl,row_mono ho.out hb.out.size,hA.out,hl.out,bgo hb.out hb2.out⟩
theorem rsleastE_any (B:Nat) (u:Value) (l:List Sp) (n:Int) (w:World) (hu:SeesS w B u l) (hB:B<=w.heap.size) (hn:l.length<=64) (h0:0<l.length\/l=[]/\u=.slice none 0 0) (hok:okV l=true) (h1:1<=n) (h2:n<=1000) :
 Calls prog 179 #[u,.int .i64 n] w (LeastP2 l n w):=by
 have hpr:=lhd (profileE_any B u l w hu hB hn h0 hok);obtain⟨A,c,rfl,-,-⟩:=hu.mk_;replace hok:=lhd hok;clear hu
 go_enter func179,ntmps179
 go_wp2_with fail
 refine hpr.out.mono ?_;rintro e w1 ⟨v,ps,rfl,ho,hA,hpl,hpb,hb⟩;obtain⟨As,cs,rfl,-,-⟩:=(Sees.of_own ho).mk_;have hl1:=lhd (rleast_any w1.heap.size _ l ps n w1 (Sees.of_own ho) nlr hA hpl hpb hok.out h1 h2);replace hb:=lhd hb;clear hpr ho hA hpb;dsimp only
 go_wp2_with fail
 refine hl1.out.mono ?_;rintro e w2 ⟨v,out,rfl,ho,hA,hl,hb2⟩;replace ho:=lhd ho;replace hA:=lhd hA;replace hl:=lhd hl;replace hb2:=lhd hb2;dsimp only
 go_wp2_with fail
 go_returns
 exact⟨v,out,rfl,row_mono ho.out hb.out.size,hA.out,hl.out,bgo hb.out hb2.out⟩
theorem hullE_any (B:Nat) (u:Value) (l:List Sp) (n:Int) (w:World) (hu:SeesS w B u l) (hB:B<=w.heap.size) (hn:l.length<=64) (h0:0<l.length\/l=[]/\u=.slice none 0 0) (hok:okV l=true) (h1:1<=n) (h2:n<=1000) :
 Calls prog 108 #[u,.int .i64 n] w (HullP l n w):=by
 have x4:=Box.new w 24 [.int .i64 0,.int .i64 0];change Box (w.alloc (.cells #[.int .i64 0,.int .i64 0] 24)) _ _ _ at x4;have hal:=balloc w (.cells #[.int .i64 0,.int .i64 0] 24);have hle:=lhd (rsleastE_any B u l n _ (SeesS.below hu (hal.mono hB)) (Nat.le_trans hB hal.size) hn h0 hok h1 h2);obtain⟨A,c,rfl,-,-⟩:=hu.mk_;replace hok:=lhd hok;replace hal:=lhd hal;clear hu
 go_enter func108,ntmps108
 go_upto_region 1 with (fail)
 generalize w.alloc (.cells #[.int .i64 0,.int .i64 0] 24)=W0 at *;generalize hgg:w.heap.size=g4 at x4 ⊢;replace hgg:=lhd hgg
 go_wp2_with fail
 refine hle.out.mono ?_;rintro e w1 ⟨v,out,rfl,ho,hA,hl,hb1⟩;obtain⟨As,cs,rfl,-,-⟩:=(Sees.of_own ho).mk_;have hbw:=lhd (bgo hal.out hb1);have hg4:=lhd x4.lt;replace x4:=x4.below hb1;clear hle hal;obtain⟨k0,k1,k2,k3⟩:=box2_cells x4;rcases Nat.eq_zero_or_pos out.length with h9|h9
 ·obtain rfl:out=[]:=List.eq_nil_of_length_eq_zero h9
  have x7:=box_set2 x4 (.int .i64 0) (.int .i64 0);have hb9:=lhd (below_set2 (g:=g4) hbw.out (Nat.le_of_eq hgg.out) (.int .i64 0) (.int .i64 0));replace hA:=lhd hA;dsimp only;simp only[List.length_nil];clear ho hl h9
  go_wp2_with fail
  clear k0 k1 k2 k3;obtain⟨k0,k1⟩:=boxT2 x7;refine bodyPost_ret (v:=.tuple #[.agg #[.int .i64 0,.int .i64 0],.int .i64 21]) (by simp[results,results108,go_sem,k0,k1]) rfl ?_;exact hull_no hA.out hb9.out
 obtain⟨g6,c6,e6,g6B,-,-,-,hc6⟩:=own_form ho h9;injection e6 with e6 _ e6';subst e6 e6';obtain⟨a,ha⟩:∃a,out[0]?=some a:=⟨_,xge h9⟩
 obtain⟨b,hb⟩:∃b,out[out.length - 1]?=some b:=⟨_,xge (by omega)⟩
 have d0:w1.cell? ⟨g6,0,none⟩=some (.int .i64 a.1):=by have:=hc6 _ _ (spV_get _ _ _ ha).1;simpa using this
 obtain⟨m,hm⟩:∃m,out.length=m+1:=⟨out.length - 1,by omega⟩
 have d1:w1.cell? ⟨g6,m * 2+1,none⟩=some (.int .i64 b.2):=by have:=hc6 _ _ (spV_get _ _ _ hb).2;rw[hm] at this;simpa using this
 have hfin:=fun w' (hb':Below w.heap.size w w')=>hull_yes hA ha hb hb'
 replace hfin:=lhd hfin;rw[hm] at hl ⊢;generalize a.1=lo at *;generalize b.2=hi at *;clear ho hc6 ha hb hA h9;replace hm:=lhd hm;have x7:=box_set2 x4 (.int .i64 lo) (.int .i64 hi);have hb9:=lhd (below_set2 (g:=g4) hbw.out (Nat.le_of_eq hgg.out) (.int .i64 lo) (.int .i64 hi));have e1:IntKind.i64.wrap (((m+1:Nat):Int) - 1)=(m:Int):=by rw[xwi];omega
 have i1:(0:Int)<=(m:Int):=by omega
 have i2:(m:Int)<((m+1:Nat):Int):=by omega
 have i3:(0:Int)<((m+1:Nat):Int):=by omega
 have i4:(((m+1:Nat):Int) == 0)=false:=by rw[beq_eq_false_iff_ne];omega
 have e1':IntKind.i64.wrap ((m:Int)+1 - 1)=(m:Int):=by rw[xwi];omega
 have e1'':IntKind.i64.wrap (m:Int)=(m:Int):=by rw[xwi];omega
 have i2':(m:Int)<(m:Int)+1:=by omega
 have i3':(0:Int)<(m:Int)+1:=by omega
 have s0:((w1.setCell ⟨g4,0,none⟩ (.int .i64 lo)).setCell ⟨g4,1,none⟩ (.int .i64 hi)).cell? ⟨g6,0,none⟩=some (.int .i64 lo):=by
  rw[World.cell?_setCell_other _ _ _ _ (fun e=>by injection e with e;have:=hg4.out;omega),World.cell?_setCell_other _ _ _ _ (fun e=>by injection e with e;have:=hg4.out;omega)];exact d0
 have s1:((w1.setCell ⟨g4,0,none⟩ (.int .i64 lo)).setCell ⟨g4,1,none⟩ (.int .i64 hi)).cell? ⟨g6,m * 2+1,none⟩=some (.int .i64 hi):=by
  rw[World.cell?_setCell_other _ _ _ _ (fun e=>by injection e with e;have:=hg4.out;omega),World.cell?_setCell_other _ _ _ _ (fun e=>by injection e with e;have:=hg4.out;omega)];exact d1
 dsimp only
 go_wp2_with fail
 go_region_held3 (fun W=>W.cell? ⟨g6,0,none⟩=some (.int .i64 lo)/\W.cell? ⟨g6,m * 2+1,none⟩=some (.int .i64 hi)) (go_keep) (fail)
 go_wp2_with fail
 replace x7:=x7.below (bdrew _);clear k0 k1 k2 k3 s0 s1;obtain⟨k0,k1⟩:=boxT2 x7;refine bodyPost_ret (v:=.tuple #[.agg #[.int .i64 lo,.int .i64 hi],.int .i64 0]) (by simp[results,results108,go_sem,k0,k1]) rfl ?_;exact hfin.out _ (bgo hb9.out (bdrew _))
end Go.Proofs.YtjgepckncogdaaaGreat
