/- Contracts of functions, walks, plain facts. Conditions: those of each theorem. -/
import Derived.Test.YtjgepckncogdaaaGreatK22
import Derived.Test.YtjgepckncogdaaaGreatK23
set_option linter.unusedVariables false
set_option linter.unusedSimpArgs false
set_option maxRecDepth 100000
set_option maxHeartbeats 16000000
namespace Go.Proofs.YtjgepckncogdaaaGreat
open Go Go.RowKit _root_.Go.Proofs.Tryz
attribute [local go_sem ↓] Go.wp_at_zero Go.wp_at_succ
theorem box_set3 {W:World} {g:Nat} {T:TypeId} {a b c:Value} (h:Box W g T [a,b,c]) (x y z:Value):Box (((W.setCell ⟨g,0,none⟩ x).setCell ⟨g,1,none⟩ y).setCell ⟨g,2,none⟩ z) g T [x,y,z]:=by
 have k:=((h.set 0 x).set 1 y).set 2 z
 simpa only [xsz,xss] using k
theorem sees_set3 {W:World} {g:Nat} {T:TypeId} {a b c u:Value} {l:Bs} (h:Box W g T [a,b,c]) (n:NoByte [a,b,c]) (x y z:Value) (hs:SeesB W W.heap.size u l):SeesB (((W.setCell ⟨g,0,none⟩ x).setCell ⟨g,1,none⟩ y).setCell ⟨g,2,none⟩ z) (((W.setCell ⟨g,0,none⟩ x).setCell ⟨g,1,none⟩ y).setCell ⟨g,2,none⟩ z).heap.size u l:=by
 have hz:(((W.setCell ⟨g,0,none⟩ x).setCell ⟨g,1,none⟩ y).setCell ⟨g,2,none⟩ z).heap.size=W.heap.size:=by simp[World.setCell]
 rw[hz];exact hs.over nlr h n (ggo (ggo (setCell_grown W g 0 x) (setCell_grown _ g 1 y)) (setCell_grown _ g 2 z))
theorem own_set3 {W:World} {g base:Nat} {T:TypeId} {a b c u:Value} {ls:List Bs} (h:Box W g T [a,b,c]) (hg:g<base) (ha:NoB a) (hb:NoB b) (hc:NoB c) (x y z:Value) (hx:NoB x) (hy:NoB y) (hs:OwnL W base u ls):OwnL (((W.setCell ⟨g,0,none⟩ x).setCell ⟨g,1,none⟩ y).setCell ⟨g,2,none⟩ z) base u ls:=by
 have h1:=h.set 0 x;have h2:=h1.set 1 y;simp only[xsz,xss] at h1 h2;exact ((hs.poke hg h (noBL3' ha hb hc)).poke hg h1 (noBL3' hx hb hc)).poke hg h2 (noBL3' hx hy hc)
theorem lit13_mid (W:World) (o:Obj) (C:Array Value) (n c:Nat) (hC:C.size=n):(convert 25 25 (.slice (some ⟨W.heap.size,0,none⟩) n c)).run prog ((W.alloc (.cells C 5)).alloc o)=.ok (.slice (some ⟨W.heap.size,0,none⟩) n c) ((W.alloc (.cells C 5 (n,n+1))).alloc o):=by
 have hsh:((W.alloc (.cells C 5)).alloc o).shape? W.heap.size=some (5,C.size):=by
  have:((W.alloc (.cells C 5)).alloc o).heap[W.heap.size]?=some (.cells C 5):=by
   show ((W.heap.push (.cells C 5)).push o)[W.heap.size]?=_;rw[Array.getElem?_push,Array.getElem?_push];simp
  unfold World.shape?;rw[this]
 have hfr:∀(k:Nat),((W.alloc (.cells C 5)).alloc o).freeze ⟨W.heap.size,k,none⟩ 1=(W.alloc (.cells C 5 (k,k+1))).alloc o:=fun k=>by
  have hm:∀(a:Array Obj) (x y:Obj) (f:Obj->Obj),((a.push x).push y).modify a.size f=(a.push (f x)).push y:=by
   intro a x y f;apply Array.ext
   ·simp
   intro i h1 h2;simp only[Array.getElem_modify,Array.getElem_push,Array.size_push]
   by_cases h:a.size=i
   ·subst h
    simp
   by_cases h3:i<a.size
   ·have h4:i<a.size+1:=by omega
    simp[h,h3,h4]
   have h4:¬i<a.size+1:=by omega
   simp[h,h3,h4]
  unfold World.freeze;rw[if_neg (by decide)];show ({ (W.alloc (.cells C 5)).alloc o with heap:=((W.heap.push (.cells C 5)).push o).modify W.heap.size _ }:World)=_;rw[hm]
  rfl
 subst hC;simp[convert,run_underlying underlying25,run_underlying underlying5,markStringish,hsh];exact hfr _
theorem lit13_runJ (W:World) (G:Nat) (hG:G=W.heap.size):(convert 25 25 (.slice (some ⟨G,0,none⟩) 13 13)).run prog (W.alloc (.cells #[.int .u8 115,.int .u8 101,.int .u8 99,.int .u8 116,.int .u8 105,.int .u8 109,.int .u8 101,.int .u8 32,.int .u8 98,.int .u8 97,.int .u8 116,.int .u8 99,.int .u8 104] 5))=.ok (.slice (some ⟨G,0,none⟩) 13 13) (W.alloc (.cells #[.int .u8 115,.int .u8 101,.int .u8 99,.int .u8 116,.int .u8 105,.int .u8 109,.int .u8 101,.int .u8 32,.int .u8 98,.int .u8 97,.int .u8 116,.int .u8 99,.int .u8 104] 5 (13,14))):=by
 subst hG;exact Lib.run_convert_bytes_const W 25 5 #[.int .u8 115,.int .u8 101,.int .u8 99,.int .u8 116,.int .u8 105,.int .u8 109,.int .u8 101,.int .u8 32,.int .u8 98,.int .u8 97,.int .u8 116,.int .u8 99,.int .u8 104] 13 13 underlying25 underlying5
theorem rjtwo {Y X:World} {v1 v2:Value} {a b:Bs} (s1:SeesB Y Y.heap.size v1 a) (s2:SeesB Y Y.heap.size v2 b) (G:Nat) (hG:G=Y.heap.size) (hX:Below (Y.alloc (.cells #[v1,v2] 25)).heap.size (Y.alloc (.cells #[v1,v2] 25)) X) (hl:(a++b).length<=1099511627776) :
 Calls prog 85 #[.slice (some ⟨G,0,none⟩) 2 2] X (Gives (a++b) X):=by
 subst hG;have h:=seesL_lit Y 25 (vs:=[v1,v2]) (ls:=[a,b]) ⟨s1,s2,trivial⟩ (by simp[maxLen]);have hf:[a,b].flatten=a++b:=by simp
 have:=rjoin_any _ _ [a,b] X (h.below hX) hX.size (by rw[hf];exact hl)
 rw[hf] at this;exact this
theorem taglit2 (W:World) (v1 v2:Value) (l1 l2:Bs) (h1:SeesB W W.heap.size v1 l1) (h2:SeesB W W.heap.size v2 l2) :
 SeesR (W.alloc (.cells #[.string ⟨#[82,79,79,84]⟩,v1,.string ⟨#[83,80,65,78]⟩,v2] 173)) (W.heap.size+1) (.slice (some ⟨W.heap.size,0,none⟩) 2 2) 2 2 (tagS [(nROOT,l1),(nSPAN,l2)]):=by
 have hb:=balloc W (.cells #[.string ⟨#[82,79,79,84]⟩,v1,.string ⟨#[83,80,65,78]⟩,v2] 173);refine⟨rfl,[.string ⟨#[82,79,79,84]⟩,v1,.string ⟨#[83,80,65,78]⟩,v2],⟨rfl,_,_,rfl,by omega,by simp[maxLen],fun _=>⟨W.heap.size,0,rfl,by omega,fun j u hu=>?_⟩⟩,fun k s hk=>?_⟩
 ·rw[Nat.zero_add,block_cell (heap_alloc_new W _)]
  exact hu
 have e1:tagS [(nROOT,l1),(nSPAN,l2)]=[Spec.val (.string (strB nROOT)),.byt l1,Spec.val (.string (strB nSPAN)),.byt l2]:=rfl;rw[e1] at hk;have f:∀{v:Value} {l:Bs},SeesB W W.heap.size v l->FitS (W.alloc (.cells #[.string ⟨#[82,79,79,84]⟩,v1,.string ⟨#[83,80,65,78]⟩,v2] 173)) (W.heap.size+1) v (.byt l):=fun h=>(h.below hb).more (by omega)
 match k,hk with
 | 0,hk=>cases hk;exact⟨_,rfl,rfl,rfl⟩
 | 1,hk=>cases hk;exact⟨_,rfl,f h1⟩
 | 2,hk=>cases hk;exact⟨_,rfl,rfl,rfl⟩
 | 3,hk=>cases hk;exact⟨_,rfl,f h2⟩
 | k+4,hk=>simp at hk
theorem taglit5 (W:World) (v1 v2 v3 v4 v5:Value) (l1 l2 l3 l4 l5:Bs) (h1:SeesB W W.heap.size v1 l1) (h2:SeesB W W.heap.size v2 l2) (h3:SeesB W W.heap.size v3 l3) (h4:SeesB W W.heap.size v4 l4) (h5:SeesB W W.heap.size v5 l5) :
 SeesR (W.alloc (.cells #[.string ⟨#[73,78,68,88]⟩,v1,.string ⟨#[78,85,77,66]⟩,v2,.string ⟨#[80,65,84,72]⟩,v3,.string ⟨#[83,73,71,78]⟩,v4,.string ⟨#[83,82,69,80]⟩,v5] 173)) (W.heap.size+1) (.slice (some ⟨W.heap.size,0,none⟩) 5 5) 2 5 (tagS [(nINDX,l1),(nNUMB,l2),(nPATH,l3),(nSIGN,l4),(nSREP,l5)]):=by
 have hb:=balloc W (.cells #[.string ⟨#[73,78,68,88]⟩,v1,.string ⟨#[78,85,77,66]⟩,v2,.string ⟨#[80,65,84,72]⟩,v3,.string ⟨#[83,73,71,78]⟩,v4,.string ⟨#[83,82,69,80]⟩,v5] 173);refine⟨rfl,[.string ⟨#[73,78,68,88]⟩,v1,.string ⟨#[78,85,77,66]⟩,v2,.string ⟨#[80,65,84,72]⟩,v3,.string ⟨#[83,73,71,78]⟩,v4,.string ⟨#[83,82,69,80]⟩,v5],⟨rfl,_,_,rfl,by omega,by simp[maxLen],fun _=>⟨W.heap.size,0,rfl,by omega,fun j u hu=>?_⟩⟩,fun k s hk=>?_⟩
 ·rw[Nat.zero_add,block_cell (heap_alloc_new W _)]
  exact hu
 have e1:tagS [(nINDX,l1),(nNUMB,l2),(nPATH,l3),(nSIGN,l4),(nSREP,l5)]=[Spec.val (.string (strB nINDX)),.byt l1,Spec.val (.string (strB nNUMB)),.byt l2,Spec.val (.string (strB nPATH)),.byt l3,Spec.val (.string (strB nSIGN)),.byt l4,Spec.val (.string (strB nSREP)),.byt l5]:=rfl;rw[e1] at hk;have f:∀{v:Value} {l:Bs},SeesB W W.heap.size v l->FitS (W.alloc (.cells #[.string ⟨#[73,78,68,88]⟩,v1,.string ⟨#[78,85,77,66]⟩,v2,.string ⟨#[80,65,84,72]⟩,v3,.string ⟨#[83,73,71,78]⟩,v4,.string ⟨#[83,82,69,80]⟩,v5] 173)) (W.heap.size+1) v (.byt l):=fun h=>(h.below hb).more (by omega)
 match k,hk with
 | 0,hk=>cases hk;exact⟨_,rfl,rfl,rfl⟩
 | 1,hk=>cases hk;exact⟨_,rfl,f h1⟩
 | 2,hk=>cases hk;exact⟨_,rfl,rfl,rfl⟩
 | 3,hk=>cases hk;exact⟨_,rfl,f h2⟩
 | 4,hk=>cases hk;exact⟨_,rfl,rfl,rfl⟩
 | 5,hk=>cases hk;exact⟨_,rfl,f h3⟩
 | 6,hk=>cases hk;exact⟨_,rfl,rfl,rfl⟩
 | 7,hk=>cases hk;exact⟨_,rfl,f h4⟩
 | 8,hk=>cases hk;exact⟨_,rfl,rfl,rfl⟩
 | 9,hk=>cases hk;exact⟨_,rfl,f h5⟩
 | k+10,hk=>simp at hk
theorem ranswer_any (B:Nat) (u u2:Value) (sd:Bs) (h n:Int) (ns:List Bs) (lo hi:Int) (w:World) (hu:SeesB w B u sd) (hu2:SeesL w B u2 ns) (hB:B<=w.heap.size) (hn:ns.length<=1048576) :
 Calls prog 225 #[.agg #[u,.int .i64 h,.int .i64 n],u2,.agg #[.int .i64 lo,.int .i64 hi]] w (AnswerP (answerR sd h n ns lo hi) w):=by
 obtain⟨A,c,rfl,-,-⟩:=hu.mk_;obtain⟨A2,c2,rfl,-,-⟩:=hu2.mk_;have b3:=bgo (bgo (balloc w (.cells #[.slice A sd.length c,.int .i64 h,.int .i64 n] 27)) (balloc _ (.cells #[.int .i64 lo,.int .i64 hi] 24))) (balloc _ (.cells #[.slice none 0 0,.int .i64 0,.int .i64 0] 27));have x3:=((Box.new w 27 [.slice A sd.length c,.int .i64 h,.int .i64 n]).below (balloc _ (.cells #[.int .i64 lo,.int .i64 hi] 24))).below (balloc _ (.cells #[.slice none 0 0,.int .i64 0,.int .i64 0] 27));have x5:=(Box.new (w.alloc (.cells #[.slice A sd.length c,.int .i64 h,.int .i64 n] 27)) 24 [.int .i64 lo,.int .i64 hi]).below (balloc _ (.cells #[.slice none 0 0,.int .i64 0,.int .i64 0] 27));have x6:=Box.new ((w.alloc (.cells #[.slice A sd.length c,.int .i64 h,.int .i64 n] 27)).alloc (.cells #[.int .i64 lo,.int .i64 hi] 24)) 27 [.slice none 0 0,.int .i64 0,.int .i64 0];rw[xsa] at x5;rw[xsa,xsa] at x6;have su:=lhd (seesB_of hu hB b3);have sn:=lhd (seesL_of hu2 hB b3);have hg6:w.heap.size<=w.heap.size+1+1:=by omega
 replace hg6:=lhd hg6;have hn9:=lhd hn;have hbw:=lhd b3;clear hu hu2 b3 hn;change Box (((w.alloc (.cells #[.slice A sd.length c,.int .i64 h,.int .i64 n] 27)).alloc (.cells #[.int .i64 lo,.int .i64 hi] 24)).alloc (.cells #[.slice none 0 0,.int .i64 0,.int .i64 0] 27)) _ _ _ at x3 x5 x6
 go_enter func225,ntmps225
 go_upto_region 1 with (fail)
 generalize ((w.alloc (.cells #[.slice A sd.length c,.int .i64 h,.int .i64 n] 27)).alloc (.cells #[.int .i64 lo,.int .i64 hi] 24)).alloc (.cells #[.slice none 0 0,.int .i64 0,.int .i64 0] 27)=W0 at *;generalize hG6:w.heap.size+1+1=g6 at *;generalize hG5:w.heap.size+1=g5 at *;generalize hG3:w.heap.size=g3 at x3 ⊢;replace hG6:=lhd hG6;replace hG5:=lhd hG5;replace hG3:=lhd hG3;obtain⟨a0,a1,a2,-,-,-⟩:=box3_cells x3;have hva:=lhd (rsvalid_any W0.heap.size _ sd h n W0 su.out)
 go_wp2_with fail
 refine hva.out.mono ?_;rintro e w1 ⟨rfl,hb1⟩;replace x3:=x3.below hb1;replace x5:=x5.below hb1;replace x6:=x6.below hb1;replace su:=lhd (seesB_of su.out nlr hb1);replace sn:=lhd (seesL_of sn.out nlr hb1);replace hbw:=lhd (bgo hbw.out hb1);clear a0 a1 a2 hva hb1;dsimp only;have hbC:Hid (bchkC sd h n ns lo hi=if validI sd h n=true then (if ns.length<1\/16<ns.length then 8 else if (vS lo hi&&all32 ns)=true then 0 else 3) else 3):=rfl;have hR:Hid (∀c,bchkC sd h n ns lo hi=c->c≠0->answerR sd h n ns lo hi=(([],0,0),[],c)):=fun c h1 h2=>by rw[answerR,if_neg (by rw[h1];exact h2),h1]
 cases hV:validI sd h n with
 | false=>
   have hr:Hid (answerR sd h n ns lo hi=(([],0,0),[],3)):=hR.out 3 (by rw[hbC.out,hV];rfl) (by decide);replace hV:=lhd hV;clear x3 x5;obtain⟨y0,y1,y2,f0,f1,f2⟩:=box3_cells x6
   go_wp2_with fail
   have k:=box_set3 x6 (.slice none 0 0) (.int .i64 0) (.int .i64 0);have kb:=lhd (below_set3 hbw.out hg6.out (.slice none 0 0) (.int .i64 0) (.int .i64 0));clear y0 y1 y2 f0 f1 f2 x6;generalize ((w1.setCell ⟨g6,0,none⟩ (.slice none 0 0)).setCell ⟨g6,1,none⟩ (.int .i64 0)).setCell ⟨g6,2,none⟩ (.int .i64 0)=W9 at *;obtain⟨z0,z1,z2,-,-,-⟩:=box3_cells k
   try simp only[Exit.inBlock,Exit.then]
   refine bodyPost_ret (v:=.tuple #[.agg #[.slice none 0 0,.int .i64 0,.int .i64 0],.slice none 0 0,.int .i64 3]) (by simp[results,results225,go_sem,z0,z1,z2]) rfl ?_;exact answer_bad hr.out kb.out
 | true=>
   by_cases h8:ns.length<1\/16<ns.length
   ·have hr:Hid (answerR sd h n ns lo hi=(([],0,0),[],8)):=hR.out 8 (by rw[hbC.out,hV,if_pos rfl,if_pos h8]) (by decide)
    replace hV:=lhd hV;clear x3 x5;rcases h8 with h8|h8
    ·have i0:(ns.length:Int)<1:=by omega
     obtain⟨y0,y1,y2,f0,f1,f2⟩:=box3_cells x6
     go_wp2_with fail
     have k:=box_set3 x6 (.slice none 0 0) (.int .i64 0) (.int .i64 0);have kb:=lhd (below_set3 hbw.out hg6.out (.slice none 0 0) (.int .i64 0) (.int .i64 0));clear y0 y1 y2 f0 f1 f2 x6;generalize ((w1.setCell ⟨g6,0,none⟩ (.slice none 0 0)).setCell ⟨g6,1,none⟩ (.int .i64 0)).setCell ⟨g6,2,none⟩ (.int .i64 0)=W9 at *;obtain⟨z0,z1,z2,-,-,-⟩:=box3_cells k
     try simp only[Exit.inBlock,Exit.then]
     refine bodyPost_ret (v:=.tuple #[.agg #[.slice none 0 0,.int .i64 0,.int .i64 0],.slice none 0 0,.int .i64 8]) (by simp[results,results225,go_sem,z0,z1,z2]) rfl ?_;exact answer_bad hr.out kb.out
    have i0:¬(ns.length:Int)<1:=by omega
    have i1:(16:Int)<(ns.length:Int):=by omega
    obtain⟨y0,y1,y2,f0,f1,f2⟩:=box3_cells x6
    go_wp2_with fail
    have k:=box_set3 x6 (.slice none 0 0) (.int .i64 0) (.int .i64 0);have kb:=lhd (below_set3 hbw.out hg6.out (.slice none 0 0) (.int .i64 0) (.int .i64 0));clear y0 y1 y2 f0 f1 f2 x6;generalize ((w1.setCell ⟨g6,0,none⟩ (.slice none 0 0)).setCell ⟨g6,1,none⟩ (.int .i64 0)).setCell ⟨g6,2,none⟩ (.int .i64 0)=W9 at *;obtain⟨z0,z1,z2,-,-,-⟩:=box3_cells k
    try simp only[Exit.inBlock,Exit.then]
    refine bodyPost_ret (v:=.tuple #[.agg #[.slice none 0 0,.int .i64 0,.int .i64 0],.slice none 0 0,.int .i64 8]) (by simp[results,results225,go_sem,z0,z1,z2]) rfl ?_;exact answer_bad hr.out kb.out
   have i0:¬(ns.length:Int)<1:=by omega
   have i1:¬(16:Int)<(ns.length:Int):=by omega
   have hb2C:Hid (bchkC sd h n ns lo hi=if (vS lo hi&&all32 ns)=true then 0 else 3):=by show _=_;rw[hbC.out,hV,if_pos rfl,if_neg h8]
   replace hV:=lhd hV;have hn1:1<=ns.length:=by omega
   have hn2:ns.length<=16:=by omega
   obtain⟨b0,o0,rfl,hb0B,hds⟩:=sn.out.at_ (by omega);replace hds:=lhd hds;replace x3:=lhd x3;replace x5:=lhd x5;replace x6:=lhd x6;clear h8
   go_wp2_with fail
   go_loopw [9] (fun t wr=>∃k:Nat,k<=ns.length/\t=.int .i64 k/\Hid (all32 (ns.take k)=true)/\wr=w1) (fun t _=>ns.length - (intOf t).toNat)
   case atStart=>exact⟨0,by omega,rfl,rfl,rfl⟩
   case round=>
    obtain⟨k,hk,rfl,ha,rfl⟩:=hrel
    by_cases hlt:k<ns.length
    ·obtain⟨A',c',y1,-,-,sd'⟩:=hds.out k hlt
     have hdk:ns[k]?=some (ns.getD k []):=by rw[xgd,xge hlt];rfl
     have hst:=lhd (all32_take ns k _ hdk);generalize hda:ns.getD k []=da at *;have i2:(k:Int)<(ns.length:Int):=by omega
     have hmem:Hid (da∈ns):=by show _∈_;exact List.mem_of_getElem? hdk
     replace hda:=lhd hda;replace hdk:=lhd hdk;clear sd'
     by_cases h32:da.length=32
     ·have hd:((da.length:Int) != 32)=false:=by simp;omega
      have hst2:Hid (all32 (ns.take (k+1))=true):=by show _=_;rw[hst.out,ha.out];simp[h32]
      replace h32:=lhd h32
      go_wp2_with fail
      go_roundw
      case rel=>exact⟨k+1,by omega,by go_num,hst2,trivial⟩
      case measure=>simp[intOf];omega
     have hd:((da.length:Int) != 32)=true:=by simp;omega
     have hno:Hid (all32 ns=false):=by
      show _=_;cases h:all32 ns with
      | false=>rfl
      | true=>exact absurd (all32_each h da hmem.out) h32
     have hr:Hid (answerR sd h n ns lo hi=(([],0,0),[],3)):=hR.out 3 (by rw[hb2C.out,hno.out];simp) (by decide);replace h32:=lhd h32;replace x6:=x6.out;obtain⟨y0,y1,y2,f0,f1,f2⟩:=box3_cells x6
     go_wp2_with fail
     have k:=box_set3 x6 (.slice none 0 0) (.int .i64 0) (.int .i64 0);have kb:=lhd (below_set3 hbw.out hg6.out (.slice none 0 0) (.int .i64 0) (.int .i64 0));clear y0 y1 y2 f0 f1 f2 x6;generalize ((wr.setCell ⟨g6,0,none⟩ (.slice none 0 0)).setCell ⟨g6,1,none⟩ (.int .i64 0)).setCell ⟨g6,2,none⟩ (.int .i64 0)=W9 at *;obtain⟨z0,z1,z2,-,-,-⟩:=box3_cells k
     try simp only[Exit.inBlock,Exit.then]
     refine bodyPost_ret (v:=.tuple #[.agg #[.slice none 0 0,.int .i64 0,.int .i64 0],.slice none 0 0,.int .i64 3]) (by simp[results,results225,go_sem,z0,z1,z2]) rfl ?_;exact answer_bad hr.out kb.out
    have i2:¬(k:Int)<(ns.length:Int):=by omega
    rw[xtl (by omega)] at ha;have hsp:=lhd (rspan_any lo hi wr);obtain⟨a3,a4⟩:=boxT2 x5.out
    go_wp2_with fail
    refine hsp.out.mono ?_;rintro e w2 ⟨v9,rfl,o9,hb2⟩;replace x3:=x3.out.below hb2;replace x6:=x6.out.below hb2;replace su:=lhd (seesB_of su.out nlr hb2);replace sn:=lhd (seesL_of sn.out nlr hb2);replace hbw:=lhd (bgo hbw.out hb2);clear a3 a4 hsp hb2 hds;dsimp only;have hsC:spanC lo hi=if vS lo hi then 0 else 3:=rfl
    cases hv:vS lo hi with
    | false=>
      rw[hsC,hv];have hr:Hid (answerR sd h n ns lo hi=(([],0,0),[],3)):=hR.out 3 (by rw[hb2C.out,hv];rfl) (by decide);replace hv:=lhd hv;obtain⟨A9,c9,rfl,-,-⟩:=o9.sees.mk_;clear x3 hsC o9;obtain⟨y0,y1,y2,f0,f1,f2⟩:=box3_cells x6
      go_wp2_with fail
      have k:=box_set3 x6 (.slice none 0 0) (.int .i64 0) (.int .i64 0);have kb:=lhd (below_set3 hbw.out hg6.out (.slice none 0 0) (.int .i64 0) (.int .i64 0));clear y0 y1 y2 f0 f1 f2 x6;generalize ((w2.setCell ⟨g6,0,none⟩ (.slice none 0 0)).setCell ⟨g6,1,none⟩ (.int .i64 0)).setCell ⟨g6,2,none⟩ (.int .i64 0)=W9 at *;obtain⟨z0,z1,z2,-,-,-⟩:=box3_cells k
      try simp only[Exit.inBlock,Exit.then]
      refine bodyPost_ret (v:=.tuple #[.agg #[.slice none 0 0,.int .i64 0,.int .i64 0],.slice none 0 0,.int .i64 3]) (by simp[results,results225,go_sem,z0,z1,z2]) rfl ?_;exact answer_bad hr.out kb.out
    | true=>
    rw[hsC,hv];have E1:bchkC sd h n ns lo hi=0:=by rw[hb2C.out,hv,ha.out];rfl
    obtain⟨hvI,-,-,hvs,h32⟩:=bchk_zero E1;have hr:Hid (answerR sd h n ns lo hi=if (signAll sd h n (tBatch++partG ns lo hi)).2.2.2.2=0 then
     (((signAll sd h n (tBatch++partG ns lo hi)).1,(signAll sd h n (tBatch++partG ns lo hi)).2.1,(signAll sd h n (tBatch++partG ns lo hi)).2.2.1),ansL ns (signAll sd h n (tBatch++partG ns lo hi)).2.2.2.1 (partG ns lo hi) ns.length,0)
     else (([],0,0),[],(signAll sd h n (tBatch++partG ns lo hi)).2.2.2.2)):=by show _=_;rw[answerR,if_pos E1]
    rw[show spanL lo hi=spanB lo hi by rw[spanL,if_pos hv]] at o9;replace hv:=lhd hv;replace E1:=lhd E1;replace hvI:=lhd hvI;replace hvs:=lhd hvs;have hrt:=rroot_top ns w2.heap.size _ w2 sn.out nlr (by omega) (fun l hl=>by rw[h32 l hl];omega);unfold RootPost at hrt;replace h32:=lhd h32;have hpg:partG ns lo hi=encT [(nROOT,rootG (ns.map leafH)),(nSPAN,spanB lo hi)]:=rfl;have hTl2:=partG_len ns lo hi;have hRl:Hid ((rootG (ns.map leafH)).length=32):=rootG_len _ (leafs_len ns);have hSl:=lhd (pb16 lo hi);generalize rootG (ns.map leafH)=R at *;generalize spanB lo hi=S at *;obtain⟨A9,c9,rfl,-,-⟩:=o9.sees.mk_;replace hrt:=lhd hrt;replace hpg:=lhd hpg;clear hsC i2;have i2:True:=trivial
    go_wp2_with fail
    refine hrt.out.mono ?_;rintro e w4 ⟨v10,rfl,o10,hb4⟩;obtain⟨A10,c10,rfl,-,-⟩:=o10.sees.mk_;have hTS:=taglit2 w4 _ _ R S o10.sees (seesB_of o9.sees nlr hb4);have hal4:=balloc w4 (.cells #[.string ⟨#[82,79,79,84]⟩,.slice A10 R.length c10,.string ⟨#[83,80,65,78]⟩,.slice A9 S.length c9] 173);rw[show w4.heap.size+1=(w4.alloc (.cells #[.string ⟨#[82,79,79,84]⟩,.slice A10 R.length c10,.string ⟨#[83,80,65,78]⟩,.slice A9 S.length c9] 173)).heap.size from (xsa _ _).symm] at hTS;have hen:=rencode_any _ _ [(nROOT,R),(nSPAN,S)] _ hTS nlr (by simp) (by
     have h1:=hRl.out;have h2:=hSl.out;simp only[dataT,xmp,List.map_nil,xfc,List.flatten_nil,xla,List.length_nil]
     omega)
    unfold EncP at hen;rw[<-hpg.out] at hen;generalize partG ns lo hi=T at *;have hb24:=bgo hb4 hal4;replace x3:=x3.below hb24;replace x6:=x6.below hb24;replace su:=lhd (seesB_of su.out nlr hb24);replace sn:=lhd (seesL_of sn.out nlr hb24);replace hbw:=lhd (bgo hbw.out hb24);replace hen:=lhd hen;clear hTS hal4 hb24 hb4 o9 o10 hrt;dsimp only
    go_wp2_with fail
    refine hen.out.mono ?_;rintro e W2 ⟨v7,rfl,o7,hb2⟩;have sp2:=o7.sees;obtain⟨A7,c7,rfl,-,-⟩:=o7.sees.mk_;replace sp2:=lhd sp2;replace x3:=x3.below hb2;replace x6:=x6.below hb2;replace su:=lhd (seesB_of su.out nlr hb2);replace sn:=lhd (seesL_of sn.out nlr hb2);replace hbw:=lhd (bgo hbw.out hb2);clear x5 hen hb2 o7 i2;dsimp only;have hm:(tBatch++T).length<=65535:=by rw[xla];simp[tBatch];omega
    have hTl:Hid ((tBatch++T).length<=1099511627776):=by show _<=_;omega
    have hsn:=fun (W:World) (v:Value) (hW:Below W2.heap.size W2 W) (hv:SeesB W W.heap.size v (tBatch++T))=>rsign_all W.heap.size (.slice A sd.length c) v sd (tBatch++T) h n W (seesB_of su.out nlr hW) hv nlr hm
    have hrg:=fun h0=>sign_sig (m:=tBatch++T) hvI.out h0
    generalize hsa:signAll sd h n (tBatch++T)=r at *;replace hsa:=lhd hsa;obtain⟨rs,rh,rn,rg,rc⟩:=r;dsimp only at hr hrg;have hrl:Hid (rc=0->rg.length<=757):=fun h0=>by
     obtain⟨k',i',-,-,hk6,-,-,e9⟩:=hrg h0;cases e9;rw[sigG_len]
     omega
    unfold SignPost at hsn;dsimp only at hsn;replace hsn:=lhd hsn;replace hm:=lhd hm;have K:Hid (∀W:World,Below W2.heap.size W2 W->W.cell? ⟨g3,0,none⟩=some (.slice A sd.length c)/\W.cell? ⟨g3,1,none⟩=some (.int .i64 h)/\W.cell? ⟨g3,2,none⟩=some (.int .i64 n)):=fun W hW=>⟨(x3.below hW).cell 0,(x3.below hW).cell 1,(x3.below hW).cell 2⟩
    obtain⟨c0,c1,c2'⟩:=K.out W2 (Below.refl _ _);clear hrg x3
    go_wp2_with fail
    go_cut [16,17,11] (fun v11 v12 v13 W=>SgnR W2 rs rh rn rg rc v11 v12 v13 W)
    case first=>
     have sT:=sp2.out;have q1:SeesB (W2.alloc (.cells #[.int .u8 115,.int .u8 101,.int .u8 99,.int .u8 116,.int .u8 105,.int .u8 109,.int .u8 101,.int .u8 32,.int .u8 98,.int .u8 97,.int .u8 116,.int .u8 99,.int .u8 104] 5 (13,14))) (W2.alloc (.cells #[.int .u8 115,.int .u8 101,.int .u8 99,.int .u8 116,.int .u8 105,.int .u8 109,.int .u8 101,.int .u8 32,.int .u8 98,.int .u8 97,.int .u8 116,.int .u8 99,.int .u8 104] 5 (13,14))).heap.size (.slice (some ⟨W2.heap.size,0,none⟩) 13 13) tBatch:=(lit13_sees W2).more (by rw[xsa];exact Nat.le_refl _);have p1:SeesB (W2.alloc (.cells #[.int .u8 115,.int .u8 101,.int .u8 99,.int .u8 116,.int .u8 105,.int .u8 109,.int .u8 101,.int .u8 32,.int .u8 98,.int .u8 97,.int .u8 116,.int .u8 99,.int .u8 104] 5 (13,14))) (W2.alloc (.cells #[.int .u8 115,.int .u8 101,.int .u8 99,.int .u8 116,.int .u8 105,.int .u8 109,.int .u8 101,.int .u8 32,.int .u8 98,.int .u8 97,.int .u8 116,.int .u8 99,.int .u8 104] 5 (13,14))).heap.size (.slice A7 T.length c7) T:=seesB_of sT nlr (balloc W2 _)
     have q2:SeesB ((W2.alloc (.cells #[.slice none 0 0,.int .i64 0,.int .i64 0] 27)).alloc (.cells #[.int .u8 115,.int .u8 101,.int .u8 99,.int .u8 116,.int .u8 105,.int .u8 109,.int .u8 101,.int .u8 32,.int .u8 98,.int .u8 97,.int .u8 116,.int .u8 99,.int .u8 104] 5 (13,14))) ((W2.alloc (.cells #[.slice none 0 0,.int .i64 0,.int .i64 0] 27)).alloc (.cells #[.int .u8 115,.int .u8 101,.int .u8 99,.int .u8 116,.int .u8 105,.int .u8 109,.int .u8 101,.int .u8 32,.int .u8 98,.int .u8 97,.int .u8 116,.int .u8 99,.int .u8 104] 5 (13,14))).heap.size (.slice (some ⟨W2.heap.size+1,0,none⟩) 13 13) tBatch:=by have h:=lit13_sees (W2.alloc (.cells #[.slice none 0 0,.int .i64 0,.int .i64 0] 27));rw[xsa] at h;exact h.more (by rw[xsa,xsa];exact Nat.le_refl _)
     have p2:SeesB ((W2.alloc (.cells #[.slice none 0 0,.int .i64 0,.int .i64 0] 27)).alloc (.cells #[.int .u8 115,.int .u8 101,.int .u8 99,.int .u8 116,.int .u8 105,.int .u8 109,.int .u8 101,.int .u8 32,.int .u8 98,.int .u8 97,.int .u8 116,.int .u8 99,.int .u8 104] 5 (13,14))) ((W2.alloc (.cells #[.slice none 0 0,.int .i64 0,.int .i64 0] 27)).alloc (.cells #[.int .u8 115,.int .u8 101,.int .u8 99,.int .u8 116,.int .u8 105,.int .u8 109,.int .u8 101,.int .u8 32,.int .u8 98,.int .u8 97,.int .u8 116,.int .u8 99,.int .u8 104] 5 (13,14))).heap.size (.slice A7 T.length c7) T:=seesB_of sT nlr (bgo (balloc W2 _) (balloc _ _));have q3:SeesB ((W2.alloc (.cells #[.int .u8 115,.int .u8 101,.int .u8 99,.int .u8 116,.int .u8 105,.int .u8 109,.int .u8 101,.int .u8 32,.int .u8 98,.int .u8 97,.int .u8 116,.int .u8 99,.int .u8 104] 5 (13,14))).alloc (.cells #[.slice none 0 0,.int .i64 0,.int .i64 0] 27)) ((W2.alloc (.cells #[.int .u8 115,.int .u8 101,.int .u8 99,.int .u8 116,.int .u8 105,.int .u8 109,.int .u8 101,.int .u8 32,.int .u8 98,.int .u8 97,.int .u8 116,.int .u8 99,.int .u8 104] 5 (13,14))).alloc (.cells #[.slice none 0 0,.int .i64 0,.int .i64 0] 27)).heap.size (.slice (some ⟨W2.heap.size,0,none⟩) 13 13) tBatch:=seesB_of q1 nlr (balloc _ _)
     have p3:SeesB ((W2.alloc (.cells #[.int .u8 115,.int .u8 101,.int .u8 99,.int .u8 116,.int .u8 105,.int .u8 109,.int .u8 101,.int .u8 32,.int .u8 98,.int .u8 97,.int .u8 116,.int .u8 99,.int .u8 104] 5 (13,14))).alloc (.cells #[.slice none 0 0,.int .i64 0,.int .i64 0] 27)) ((W2.alloc (.cells #[.int .u8 115,.int .u8 101,.int .u8 99,.int .u8 116,.int .u8 105,.int .u8 109,.int .u8 101,.int .u8 32,.int .u8 98,.int .u8 97,.int .u8 116,.int .u8 99,.int .u8 104] 5 (13,14))).alloc (.cells #[.slice none 0 0,.int .i64 0,.int .i64 0] 27)).heap.size (.slice A7 T.length c7) T:=seesB_of p1 nlr (balloc _ _);have hja:=lhd (rjtwo (X:=((W2.alloc (.cells #[.int .u8 115,.int .u8 101,.int .u8 99,.int .u8 116,.int .u8 105,.int .u8 109,.int .u8 101,.int .u8 32,.int .u8 98,.int .u8 97,.int .u8 116,.int .u8 99,.int .u8 104] 5 (13,14))).alloc (.cells #[.slice (some ⟨W2.heap.size,0,none⟩) 13 13,.slice A7 T.length c7] 25))) q1 p1 (W2.heap.size+1) (by simp only[xsa]) (Below.refl _ _) hTl.out);have hda:=lhd (rjtwo (X:=((W2.alloc (.cells #[.int .u8 115,.int .u8 101,.int .u8 99,.int .u8 116,.int .u8 105,.int .u8 109,.int .u8 101,.int .u8 32,.int .u8 98,.int .u8 97,.int .u8 116,.int .u8 99,.int .u8 104] 5 (13,14))).alloc (.cells #[.slice (some ⟨W2.heap.size,0,none⟩) 13 13,.slice A7 T.length c7] 25)).drew) q1 p1 (W2.heap.size+1) (by simp only[xsa]) (bgo (Below.refl _ _) (bdrew _)) hTl.out)
     have hjb:=lhd (rjtwo (X:=(((W2.alloc (.cells #[.int .u8 115,.int .u8 101,.int .u8 99,.int .u8 116,.int .u8 105,.int .u8 109,.int .u8 101,.int .u8 32,.int .u8 98,.int .u8 97,.int .u8 116,.int .u8 99,.int .u8 104] 5 (13,14))).alloc (.cells #[.slice (some ⟨W2.heap.size,0,none⟩) 13 13,.slice A7 T.length c7] 25)).alloc (.cells #[.slice none 0 0,.int .i64 0,.int .i64 0] 27))) q1 p1 (W2.heap.size+1) (by simp only[xsa]) (balloc _ _) hTl.out);have hdb:=lhd (rjtwo (X:=(((W2.alloc (.cells #[.int .u8 115,.int .u8 101,.int .u8 99,.int .u8 116,.int .u8 105,.int .u8 109,.int .u8 101,.int .u8 32,.int .u8 98,.int .u8 97,.int .u8 116,.int .u8 99,.int .u8 104] 5 (13,14))).alloc (.cells #[.slice (some ⟨W2.heap.size,0,none⟩) 13 13,.slice A7 T.length c7] 25)).alloc (.cells #[.slice none 0 0,.int .i64 0,.int .i64 0] 27)).drew) q1 p1 (W2.heap.size+1) (by simp only[xsa]) (bgo (balloc _ _) (bdrew _)) hTl.out);have hjc:=lhd (rjtwo (X:=(((W2.alloc (.cells #[.slice none 0 0,.int .i64 0,.int .i64 0] 27)).alloc (.cells #[.int .u8 115,.int .u8 101,.int .u8 99,.int .u8 116,.int .u8 105,.int .u8 109,.int .u8 101,.int .u8 32,.int .u8 98,.int .u8 97,.int .u8 116,.int .u8 99,.int .u8 104] 5 (13,14))).alloc (.cells #[.slice (some ⟨W2.heap.size+1,0,none⟩) 13 13,.slice A7 T.length c7] 25))) q2 p2 (W2.heap.size+1+1) (by simp only[xsa]) (Below.refl _ _) hTl.out)
     have hdc:=lhd (rjtwo (X:=(((W2.alloc (.cells #[.slice none 0 0,.int .i64 0,.int .i64 0] 27)).alloc (.cells #[.int .u8 115,.int .u8 101,.int .u8 99,.int .u8 116,.int .u8 105,.int .u8 109,.int .u8 101,.int .u8 32,.int .u8 98,.int .u8 97,.int .u8 116,.int .u8 99,.int .u8 104] 5 (13,14))).alloc (.cells #[.slice (some ⟨W2.heap.size+1,0,none⟩) 13 13,.slice A7 T.length c7] 25)).drew) q2 p2 (W2.heap.size+1+1) (by simp only[xsa]) (bgo (Below.refl _ _) (bdrew _)) hTl.out);have hjd:=lhd (rjtwo (X:=(((W2.alloc (.cells #[.int .u8 115,.int .u8 101,.int .u8 99,.int .u8 116,.int .u8 105,.int .u8 109,.int .u8 101,.int .u8 32,.int .u8 98,.int .u8 97,.int .u8 116,.int .u8 99,.int .u8 104] 5 (13,14))).alloc (.cells #[.slice none 0 0,.int .i64 0,.int .i64 0] 27)).alloc (.cells #[.slice (some ⟨W2.heap.size,0,none⟩) 13 13,.slice A7 T.length c7] 25))) q3 p3 (W2.heap.size+1+1) (by simp only[xsa]) (Below.refl _ _) hTl.out);have hdd:=lhd (rjtwo (X:=(((W2.alloc (.cells #[.int .u8 115,.int .u8 101,.int .u8 99,.int .u8 116,.int .u8 105,.int .u8 109,.int .u8 101,.int .u8 32,.int .u8 98,.int .u8 97,.int .u8 116,.int .u8 99,.int .u8 104] 5 (13,14))).alloc (.cells #[.slice none 0 0,.int .i64 0,.int .i64 0] 27)).alloc (.cells #[.slice (some ⟨W2.heap.size,0,none⟩) 13 13,.slice A7 T.length c7] 25)).drew) q3 p3 (W2.heap.size+1+1) (by simp only[xsa]) (bgo (Below.refl _ _) (bdrew _)) hTl.out);clear sT q1 p1 q2 p2 q3 p3 x6;generalize tBatch++T=M at *
     have hcAj:(convert 25 25 (.slice (some ⟨W2.heap.size,0,none⟩) 13 13)).run prog (W2.alloc (.cells #[.int .u8 115,.int .u8 101,.int .u8 99,.int .u8 116,.int .u8 105,.int .u8 109,.int .u8 101,.int .u8 32,.int .u8 98,.int .u8 97,.int .u8 116,.int .u8 99,.int .u8 104] 5))=.ok (.slice (some ⟨W2.heap.size,0,none⟩) 13 13) (W2.alloc (.cells #[.int .u8 115,.int .u8 101,.int .u8 99,.int .u8 116,.int .u8 105,.int .u8 109,.int .u8 101,.int .u8 32,.int .u8 98,.int .u8 97,.int .u8 116,.int .u8 99,.int .u8 104] 5 (13,14))):=lit13_runJ W2 W2.heap.size rfl;have hcBj:(convert 25 25 (.slice (some ⟨W2.heap.size+1,0,none⟩) 13 13)).run prog ((W2.alloc (.cells #[.slice none 0 0,.int .i64 0,.int .i64 0] 27)).alloc (.cells #[.int .u8 115,.int .u8 101,.int .u8 99,.int .u8 116,.int .u8 105,.int .u8 109,.int .u8 101,.int .u8 32,.int .u8 98,.int .u8 97,.int .u8 116,.int .u8 99,.int .u8 104] 5))=.ok (.slice (some ⟨W2.heap.size+1,0,none⟩) 13 13) ((W2.alloc (.cells #[.slice none 0 0,.int .i64 0,.int .i64 0] 27)).alloc (.cells #[.int .u8 115,.int .u8 101,.int .u8 99,.int .u8 116,.int .u8 105,.int .u8 109,.int .u8 101,.int .u8 32,.int .u8 98,.int .u8 97,.int .u8 116,.int .u8 99,.int .u8 104] 5 (13,14))):=lit13_runJ (W2.alloc (.cells #[.slice none 0 0,.int .i64 0,.int .i64 0] 27)) (W2.heap.size+1) (by rw[xsa])
     have hcCj:(convert 25 25 (.slice (some ⟨W2.heap.size,0,none⟩) 13 13)).run prog ((W2.alloc (.cells #[.int .u8 115,.int .u8 101,.int .u8 99,.int .u8 116,.int .u8 105,.int .u8 109,.int .u8 101,.int .u8 32,.int .u8 98,.int .u8 97,.int .u8 116,.int .u8 99,.int .u8 104] 5)).alloc (.cells #[.slice none 0 0,.int .i64 0,.int .i64 0] 27))=.ok (.slice (some ⟨W2.heap.size,0,none⟩) 13 13) ((W2.alloc (.cells #[.int .u8 115,.int .u8 101,.int .u8 99,.int .u8 116,.int .u8 105,.int .u8 109,.int .u8 101,.int .u8 32,.int .u8 98,.int .u8 97,.int .u8 116,.int .u8 99,.int .u8 104] 5 (13,14))).alloc (.cells #[.slice none 0 0,.int .i64 0,.int .i64 0] 27)):=lit13_mid W2 _ _ 13 13 rfl;have hcAd:(convert 25 25 (.slice (some ⟨W2.heap.size,0,none⟩) 13 13)).run prog (W2.alloc (.cells #[.int .u8 115,.int .u8 101,.int .u8 99,.int .u8 116,.int .u8 105,.int .u8 109,.int .u8 101,.int .u8 32,.int .u8 98,.int .u8 97,.int .u8 116,.int .u8 99,.int .u8 104] 5)).drew=.ok (.slice (some ⟨W2.heap.size,0,none⟩) 13 13) (W2.alloc (.cells #[.int .u8 115,.int .u8 101,.int .u8 99,.int .u8 116,.int .u8 105,.int .u8 109,.int .u8 101,.int .u8 32,.int .u8 98,.int .u8 97,.int .u8 116,.int .u8 99,.int .u8 104] 5 (13,14))).drew:=lit13_run W2 W2.heap.size rfl
     have hcBd:(convert 25 25 (.slice (some ⟨W2.heap.size+1,0,none⟩) 13 13)).run prog ((W2.alloc (.cells #[.slice none 0 0,.int .i64 0,.int .i64 0] 27)).alloc (.cells #[.int .u8 115,.int .u8 101,.int .u8 99,.int .u8 116,.int .u8 105,.int .u8 109,.int .u8 101,.int .u8 32,.int .u8 98,.int .u8 97,.int .u8 116,.int .u8 99,.int .u8 104] 5)).drew=.ok (.slice (some ⟨W2.heap.size+1,0,none⟩) 13 13) ((W2.alloc (.cells #[.slice none 0 0,.int .i64 0,.int .i64 0] 27)).alloc (.cells #[.int .u8 115,.int .u8 101,.int .u8 99,.int .u8 116,.int .u8 105,.int .u8 109,.int .u8 101,.int .u8 32,.int .u8 98,.int .u8 97,.int .u8 116,.int .u8 99,.int .u8 104] 5 (13,14))).drew:=lit13_run (W2.alloc (.cells #[.slice none 0 0,.int .i64 0,.int .i64 0] 27)) (W2.heap.size+1) (by rw[xsa]);have hcCd:(convert 25 25 (.slice (some ⟨W2.heap.size,0,none⟩) 13 13)).run prog ((W2.alloc (.cells #[.int .u8 115,.int .u8 101,.int .u8 99,.int .u8 116,.int .u8 105,.int .u8 109,.int .u8 101,.int .u8 32,.int .u8 98,.int .u8 97,.int .u8 116,.int .u8 99,.int .u8 104] 5)).alloc (.cells #[.slice none 0 0,.int .i64 0,.int .i64 0] 27)).drew=.ok (.slice (some ⟨W2.heap.size,0,none⟩) 13 13) ((W2.alloc (.cells #[.int .u8 115,.int .u8 101,.int .u8 99,.int .u8 116,.int .u8 105,.int .u8 109,.int .u8 101,.int .u8 32,.int .u8 98,.int .u8 97,.int .u8 116,.int .u8 99,.int .u8 104] 5 (13,14))).alloc (.cells #[.slice none 0 0,.int .i64 0,.int .i64 0] 27)).drew:=lit13_mid W2.drew _ _ 13 13 rfl
     have bxb:Box (((W2.alloc (.cells #[.int .u8 115,.int .u8 101,.int .u8 99,.int .u8 116,.int .u8 105,.int .u8 109,.int .u8 101,.int .u8 32,.int .u8 98,.int .u8 97,.int .u8 116,.int .u8 99,.int .u8 104] 5 (13,14))).alloc (.cells #[.slice (some ⟨W2.heap.size,0,none⟩) 13 13,.slice A7 T.length c7] 25)).alloc (.cells #[.slice none 0 0,.int .i64 0,.int .i64 0] 27)) (W2.heap.size+1+1) 27 [.slice none 0 0,.int .i64 0,.int .i64 0]:=by
      have h:=Box.new ((W2.alloc (.cells #[.int .u8 115,.int .u8 101,.int .u8 99,.int .u8 116,.int .u8 105,.int .u8 109,.int .u8 101,.int .u8 32,.int .u8 98,.int .u8 97,.int .u8 116,.int .u8 99,.int .u8 104] 5 (13,14))).alloc (.cells #[.slice (some ⟨W2.heap.size,0,none⟩) 13 13,.slice A7 T.length c7] 25)) 27 [.slice none 0 0,.int .i64 0,.int .i64 0];rw[xsa,xsa] at h;exact h
     have bxc:Box (((W2.alloc (.cells #[.slice none 0 0,.int .i64 0,.int .i64 0] 27)).alloc (.cells #[.int .u8 115,.int .u8 101,.int .u8 99,.int .u8 116,.int .u8 105,.int .u8 109,.int .u8 101,.int .u8 32,.int .u8 98,.int .u8 97,.int .u8 116,.int .u8 99,.int .u8 104] 5 (13,14))).alloc (.cells #[.slice (some ⟨W2.heap.size+1,0,none⟩) 13 13,.slice A7 T.length c7] 25)) W2.heap.size 27 [.slice none 0 0,.int .i64 0,.int .i64 0]:=((Box.new W2 27 [.slice none 0 0,.int .i64 0,.int .i64 0]).below (balloc _ (.cells #[.int .u8 115,.int .u8 101,.int .u8 99,.int .u8 116,.int .u8 105,.int .u8 109,.int .u8 101,.int .u8 32,.int .u8 98,.int .u8 97,.int .u8 116,.int .u8 99,.int .u8 104] 5 (13,14)))).below (balloc _ (.cells #[.slice (some ⟨W2.heap.size+1,0,none⟩) 13 13,.slice A7 T.length c7] 25));have bxd:Box (((W2.alloc (.cells #[.int .u8 115,.int .u8 101,.int .u8 99,.int .u8 116,.int .u8 105,.int .u8 109,.int .u8 101,.int .u8 32,.int .u8 98,.int .u8 97,.int .u8 116,.int .u8 99,.int .u8 104] 5 (13,14))).alloc (.cells #[.slice none 0 0,.int .i64 0,.int .i64 0] 27)).alloc (.cells #[.slice (some ⟨W2.heap.size,0,none⟩) 13 13,.slice A7 T.length c7] 25)) (W2.heap.size+1) 27 [.slice none 0 0,.int .i64 0,.int .i64 0]:=by
      have h:=(Box.new (W2.alloc (.cells #[.int .u8 115,.int .u8 101,.int .u8 99,.int .u8 116,.int .u8 105,.int .u8 109,.int .u8 101,.int .u8 32,.int .u8 98,.int .u8 97,.int .u8 116,.int .u8 99,.int .u8 104] 5 (13,14))) 27 [.slice none 0 0,.int .i64 0,.int .i64 0]).below (balloc _ (.cells #[.slice (some ⟨W2.heap.size,0,none⟩) 13 13,.slice A7 T.length c7] 25));rw[xsa] at h;exact h
     replace bxb:=lhd bxb;replace bxc:=lhd bxc;replace bxd:=lhd bxd;obtain⟨m0a,m0b,m0c⟩:=K.out (W2.alloc (.cells #[.int .u8 115,.int .u8 101,.int .u8 99,.int .u8 116,.int .u8 105,.int .u8 109,.int .u8 101,.int .u8 32,.int .u8 98,.int .u8 97,.int .u8 116,.int .u8 99,.int .u8 104] 5)) (balloc W2 _);obtain⟨m1a,m1b,m1c⟩:=K.out (W2.alloc (.cells #[.int .u8 115,.int .u8 101,.int .u8 99,.int .u8 116,.int .u8 105,.int .u8 109,.int .u8 101,.int .u8 32,.int .u8 98,.int .u8 97,.int .u8 116,.int .u8 99,.int .u8 104] 5 (13,14))) (balloc W2 _);obtain⟨m2a,m2b,m2c⟩:=K.out ((W2.alloc (.cells #[.int .u8 115,.int .u8 101,.int .u8 99,.int .u8 116,.int .u8 105,.int .u8 109,.int .u8 101,.int .u8 32,.int .u8 98,.int .u8 97,.int .u8 116,.int .u8 99,.int .u8 104] 5 (13,14))).alloc (.cells #[.slice (some ⟨W2.heap.size,0,none⟩) 13 13,.slice A7 T.length c7] 25)) (bgo (balloc W2 _) (balloc _ _));obtain⟨m3a,m3b,m3c⟩:=K.out (((W2.alloc (.cells #[.int .u8 115,.int .u8 101,.int .u8 99,.int .u8 116,.int .u8 105,.int .u8 109,.int .u8 101,.int .u8 32,.int .u8 98,.int .u8 97,.int .u8 116,.int .u8 99,.int .u8 104] 5 (13,14))).alloc (.cells #[.slice (some ⟨W2.heap.size,0,none⟩) 13 13,.slice A7 T.length c7] 25)).alloc (.cells #[.slice none 0 0,.int .i64 0,.int .i64 0] 27)) (bgo (bgo (balloc W2 _) (balloc _ _)) (balloc _ _));obtain⟨m4a,m4b,m4c⟩:=K.out (W2.alloc (.cells #[.slice none 0 0,.int .i64 0,.int .i64 0] 27)) (balloc W2 _)
     obtain⟨m5a,m5b,m5c⟩:=K.out ((W2.alloc (.cells #[.slice none 0 0,.int .i64 0,.int .i64 0] 27)).alloc (.cells #[.int .u8 115,.int .u8 101,.int .u8 99,.int .u8 116,.int .u8 105,.int .u8 109,.int .u8 101,.int .u8 32,.int .u8 98,.int .u8 97,.int .u8 116,.int .u8 99,.int .u8 104] 5)) (bgo (balloc W2 _) (balloc _ _));obtain⟨m6a,m6b,m6c⟩:=K.out ((W2.alloc (.cells #[.slice none 0 0,.int .i64 0,.int .i64 0] 27)).alloc (.cells #[.int .u8 115,.int .u8 101,.int .u8 99,.int .u8 116,.int .u8 105,.int .u8 109,.int .u8 101,.int .u8 32,.int .u8 98,.int .u8 97,.int .u8 116,.int .u8 99,.int .u8 104] 5 (13,14))) (bgo (balloc W2 _) (balloc _ _));obtain⟨m7a,m7b,m7c⟩:=K.out (((W2.alloc (.cells #[.slice none 0 0,.int .i64 0,.int .i64 0] 27)).alloc (.cells #[.int .u8 115,.int .u8 101,.int .u8 99,.int .u8 116,.int .u8 105,.int .u8 109,.int .u8 101,.int .u8 32,.int .u8 98,.int .u8 97,.int .u8 116,.int .u8 99,.int .u8 104] 5 (13,14))).alloc (.cells #[.slice (some ⟨W2.heap.size+1,0,none⟩) 13 13,.slice A7 T.length c7] 25)) (bgo (bgo (balloc W2 _) (balloc _ _)) (balloc _ _));obtain⟨m8a,m8b,m8c⟩:=K.out ((W2.alloc (.cells #[.int .u8 115,.int .u8 101,.int .u8 99,.int .u8 116,.int .u8 105,.int .u8 109,.int .u8 101,.int .u8 32,.int .u8 98,.int .u8 97,.int .u8 116,.int .u8 99,.int .u8 104] 5)).alloc (.cells #[.slice none 0 0,.int .i64 0,.int .i64 0] 27)) (bgo (balloc W2 _) (balloc _ _))
     obtain⟨m9a,m9b,m9c⟩:=K.out ((W2.alloc (.cells #[.int .u8 115,.int .u8 101,.int .u8 99,.int .u8 116,.int .u8 105,.int .u8 109,.int .u8 101,.int .u8 32,.int .u8 98,.int .u8 97,.int .u8 116,.int .u8 99,.int .u8 104] 5 (13,14))).alloc (.cells #[.slice none 0 0,.int .i64 0,.int .i64 0] 27)) (bgo (balloc W2 _) (balloc _ _));obtain⟨m10a,m10b,m10c⟩:=K.out (((W2.alloc (.cells #[.int .u8 115,.int .u8 101,.int .u8 99,.int .u8 116,.int .u8 105,.int .u8 109,.int .u8 101,.int .u8 32,.int .u8 98,.int .u8 97,.int .u8 116,.int .u8 99,.int .u8 104] 5 (13,14))).alloc (.cells #[.slice none 0 0,.int .i64 0,.int .i64 0] 27)).alloc (.cells #[.slice (some ⟨W2.heap.size,0,none⟩) 13 13,.slice A7 T.length c7] 25)) (bgo (bgo (balloc W2 _) (balloc _ _)) (balloc _ _))
     go_region_with
      (first
       | (go_at_call 114;(with_reducible refine (hsn.out (w9.alloc (.cells #[.slice none 0 0,.int .i64 0,.int .i64 0] 27)) _ (bgo hb9 (balloc w9 _)) (seesB_of s9 nlr (balloc w9 _))).mono ?_);rintro e w10 ⟨v1,v2,rfl,t1,t2,hb10⟩
          obtain⟨A1,k1,rfl,-,-⟩:=t1.mk_;obtain⟨A8,k8,rfl,-,-⟩:=t2.mk_;have bz:=(Box.new w9 27 [.slice none 0 0,.int .i64 0,.int .i64 0]).below hb10;have hz9:=hb9.size;replace hb10:=bgo (bgo hb9 (balloc w9 _)) hb10;obtain⟨e0,e1,e2,j0,j1,j2⟩:=box3_cells bz)
       | (go_at_call 114;have _q:=bz9;(with_reducible refine (hsn.out w9 _ hb9 s9).mono ?_);rintro e w10 ⟨v1,v2,rfl,t1,t2,hb10⟩
          obtain⟨A1,k1,rfl,-,-⟩:=t1.mk_;obtain⟨A8,k8,rfl,-,-⟩:=t2.mk_;have bz:=bz9.below hb10;replace hb10:=bgo hb9 hb10;have hz9:W2.heap.size<=W2.heap.size:=Nat.le_refl W2.heap.size;obtain⟨e0,e1,e2,j0,j1,j2⟩:=box3_cells bz)
       | (go_at_call 114;(with_reducible refine (hsn.out w9 _ hb9 s9).mono ?_);rintro e w10 ⟨v1,v2,rfl,t1,t2,hb10⟩
          obtain⟨A1,k1,rfl,-,-⟩:=t1.mk_;obtain⟨A8,k8,rfl,-,-⟩:=t2.mk_;replace hb10:=bgo hb9 hb10)
       | (go_at_call 85;(with_reducible refine hda.out.mono ?_);rintro e w9 ⟨v9,rfl,o9,hb9⟩
          have s9:=o9.sees;obtain⟨A9,c9,rfl,-,-⟩:=o9.sees.mk_;replace hb9:=bgo (bgo (bgo (balloc W2 _) (balloc _ _)) (bdrew _)) hb9;obtain⟨d0,d1,d2⟩:=K.out w9 hb9;obtain⟨d3,d4,d5⟩:=K.out (w9.alloc (.cells #[.slice none 0 0,.int .i64 0,.int .i64 0] 27)) (bgo hb9 (balloc w9 _)))
       | (go_at_call 85;(with_reducible refine hja.out.mono ?_);rintro e w9 ⟨v9,rfl,o9,hb9⟩
          have s9:=o9.sees;obtain⟨A9,c9,rfl,-,-⟩:=o9.sees.mk_;replace hb9:=bgo (bgo (balloc W2 _) (balloc _ _)) hb9;obtain⟨d0,d1,d2⟩:=K.out w9 hb9;obtain⟨d3,d4,d5⟩:=K.out (w9.alloc (.cells #[.slice none 0 0,.int .i64 0,.int .i64 0] 27)) (bgo hb9 (balloc w9 _)))
       | (go_at_call 85;(with_reducible refine hdb.out.mono ?_);rintro e w9 ⟨v9,rfl,o9,hb9⟩
          have s9:=o9.sees;obtain⟨A9,c9,rfl,-,-⟩:=o9.sees.mk_;have bz9:=bxb.out.below (bdrew _) |>.below hb9;replace hb9:=bgo (bgo (bgo (bgo (balloc W2 _) (balloc _ _)) (balloc _ _)) (bdrew _)) hb9;obtain⟨d0,d1,d2⟩:=K.out w9 hb9;obtain⟨d3,d4,d5⟩:=K.out (w9.alloc (.cells #[.slice none 0 0,.int .i64 0,.int .i64 0] 27)) (bgo hb9 (balloc w9 _)))
       | (go_at_call 85;(with_reducible refine hjb.out.mono ?_);rintro e w9 ⟨v9,rfl,o9,hb9⟩
          have s9:=o9.sees;obtain⟨A9,c9,rfl,-,-⟩:=o9.sees.mk_;have bz9:=bxb.out |>.below hb9;replace hb9:=bgo (bgo (bgo (balloc W2 _) (balloc _ _)) (balloc _ _)) hb9;obtain⟨d0,d1,d2⟩:=K.out w9 hb9;obtain⟨d3,d4,d5⟩:=K.out (w9.alloc (.cells #[.slice none 0 0,.int .i64 0,.int .i64 0] 27)) (bgo hb9 (balloc w9 _)))
       | (go_at_call 85;(with_reducible refine hdc.out.mono ?_);rintro e w9 ⟨v9,rfl,o9,hb9⟩
          have s9:=o9.sees;obtain⟨A9,c9,rfl,-,-⟩:=o9.sees.mk_;have bz9:=bxc.out.below (bdrew _) |>.below hb9;replace hb9:=bgo (bgo (bgo (bgo (balloc W2 _) (balloc _ _)) (balloc _ _)) (bdrew _)) hb9;obtain⟨d0,d1,d2⟩:=K.out w9 hb9;obtain⟨d3,d4,d5⟩:=K.out (w9.alloc (.cells #[.slice none 0 0,.int .i64 0,.int .i64 0] 27)) (bgo hb9 (balloc w9 _)))
       | (go_at_call 85;(with_reducible refine hjc.out.mono ?_);rintro e w9 ⟨v9,rfl,o9,hb9⟩
          have s9:=o9.sees;obtain⟨A9,c9,rfl,-,-⟩:=o9.sees.mk_;have bz9:=bxc.out |>.below hb9;replace hb9:=bgo (bgo (bgo (balloc W2 _) (balloc _ _)) (balloc _ _)) hb9;obtain⟨d0,d1,d2⟩:=K.out w9 hb9;obtain⟨d3,d4,d5⟩:=K.out (w9.alloc (.cells #[.slice none 0 0,.int .i64 0,.int .i64 0] 27)) (bgo hb9 (balloc w9 _)))
       | (go_at_call 85;(with_reducible refine hdd.out.mono ?_);rintro e w9 ⟨v9,rfl,o9,hb9⟩
          have s9:=o9.sees;obtain⟨A9,c9,rfl,-,-⟩:=o9.sees.mk_;have bz9:=bxd.out.below (bdrew _) |>.below hb9;replace hb9:=bgo (bgo (bgo (bgo (balloc W2 _) (balloc _ _)) (balloc _ _)) (bdrew _)) hb9;obtain⟨d0,d1,d2⟩:=K.out w9 hb9;obtain⟨d3,d4,d5⟩:=K.out (w9.alloc (.cells #[.slice none 0 0,.int .i64 0,.int .i64 0] 27)) (bgo hb9 (balloc w9 _)))
       | (go_at_call 85;(with_reducible refine hjd.out.mono ?_);rintro e w9 ⟨v9,rfl,o9,hb9⟩
          have s9:=o9.sees;obtain⟨A9,c9,rfl,-,-⟩:=o9.sees.mk_;have bz9:=bxd.out |>.below hb9;replace hb9:=bgo (bgo (bgo (balloc W2 _) (balloc _ _)) (balloc _ _)) hb9;obtain⟨d0,d1,d2⟩:=K.out w9 hb9;obtain⟨d3,d4,d5⟩:=K.out (w9.alloc (.cells #[.slice none 0 0,.int .i64 0,.int .i64 0] 27)) (bgo hb9 (balloc w9 _))))
     all_goals
      go_wp2_with fail
      go_meet
      first
       | (with_reducible exact sgn_new W2 w10 _ _ _ _ _ _ _ _ _ t1 t2 hb10)
       | (with_reducible exact sgn_set W2 w10 _ _ _ _ _ _ _ _ _ _ bz t1 t2 (by omega) hb10)
    case rest=>
     obtain⟨g11,A1,k1,A8,k8,rfl,rfl,rfl,b11,t1,t2,hg11,hb3⟩:=hcut;obtain⟨w3,rfl⟩:∃w3:World,w3=wc:=⟨_,rfl⟩
     have q6:Hid (g6<w3.heap.size):=(x6.below hb3).lt;replace x6:=x6.below hb3;replace sn:=lhd (seesL_of sn.out nlr hb3);replace sp2:=lhd (seesB_of sp2.out nlr hb3);replace hbw:=lhd (bgo hbw.out hb3);clear c0 c1 c2' K hsn hb3 su hTl hg11
     by_cases hE:rc=0
     rotate_left
     ·have hr2:Hid (answerR sd h n ns lo hi=(([],0,0),[],rc)):=by show _=_;rw[hr.out,if_neg hE]
      have hEb:(rc == 0)=false:=by rw[beq_eq_false_iff_ne];exact hE
      replace hE:=lhd hE;clear b11 t1 t2;obtain⟨y0,y1,y2,f0,f1,f2⟩:=box3_cells x6
      go_wp2_with fail
      have k:=box_set3 x6 (.slice none 0 0) (.int .i64 0) (.int .i64 0);have kb:=lhd (below_set3 hbw.out hg6.out (.slice none 0 0) (.int .i64 0) (.int .i64 0));clear y0 y1 y2 f0 f1 f2 x6;generalize ((w3.setCell ⟨g6,0,none⟩ (.slice none 0 0)).setCell ⟨g6,1,none⟩ (.int .i64 0)).setCell ⟨g6,2,none⟩ (.int .i64 0)=W9 at *;obtain⟨z0,z1,z2,-,-,-⟩:=box3_cells k
      try simp only[Exit.inBlock,Exit.then]
      refine bodyPost_ret (v:=.tuple #[.agg #[.slice none 0 0,.int .i64 0,.int .i64 0],.slice none 0 0,.int .i64 rc]) (by simp[results,results225,go_sem,z0,z1,z2]) rfl ?_;exact answer_bad hr2.out kb.out
     subst hE;have hr2:Hid (answerR sd h n ns lo hi=((rs,rh,rn),ansL ns rg T ns.length,0)):=by show _=_;rw[hr.out,if_pos rfl]
     have hrl2:=hrl.out rfl;have hw3:Hid (w.heap.size<=w3.heap.size):=by show _<=_;exact hbw.out.size
     replace b11:=lhd b11;replace t1:=lhd t1;replace t2:=lhd t2;replace x6:=lhd x6;clear hr hrl
     go_wp2_with fail
     go_loopw [18,19] (fun r t wr=>∃k:Nat,k<=ns.length/\t=.int .i64 k/\Hid (OwnL wr w3.heap.size r (ansL ns rg T k))/\Hid (Below w3.heap.size w3 wr)) (fun _ t _=>ns.length - (intOf t).toNat)
     case atStart=>exact⟨0,by omega,rfl,OwnL.nil _ _,Below.refl _ _⟩
     case round=>
      obtain⟨k,hk,rfl,ho,hb⟩:=hrel;obtain⟨Ar,cr,rfl⟩:=ho.out.shape;have hkl:=ansL_len ns rg T k;rw[hkl] at ho ⊢
      by_cases hlt:k<ns.length
      ·have i0:(k:Int)<(ns.length:Int):=by omega
       have hst:=lhd (ansL_next ns rg T k);have hab:Hid (ansB ns rg T k=encT (ansTags k ns.length (pathG (ns.map leafH) k).flatten rg T)):=rfl;have hpt:=rpath_top ns k wr.heap.size _ wr (seesL_of sn.out nlr hb.out) hlt nlr (by omega) (fun l hl=>by rw[h32.out l hl];omega);unfold PathPost at hpt;obtain⟨pl1,pl2,pl3⟩:=pathF_len ns k;generalize pathG (ns.map leafH) k=PH at *;have hPl:PH.flatten.length<=512:=by omega
       have hjn:=fun W u (hu:SeesL W W.heap.size u PH)=>rjoin_any W.heap.size u PH W hu nlr (by omega)
       generalize hPF:PH.flatten=PF at *;replace hPF:=lhd hPF;replace hjn:=lhd hjn;replace hpt:=lhd hpt;replace pl2:=lhd pl2;replace pl3:=lhd pl3;generalize ansL ns rg T k=acc at *;have m1:IntKind.u64.wrap (k:Int)=(k:Int):=by rw[IntKind.wrap_u64];omega
       have m2:IntKind.u64.wrap (ns.length:Int)=(ns.length:Int):=by rw[IntKind.wrap_u64];omega
       have hp1:=lhd (rput4_any k (by omega));have hp2:=lhd (rput4_any ns.length (by omega));have hpd:=lhd (fun W u (hu:SeesB W W.heap.size u rg)=>rpad_any W.heap.size u rg W hu nlr (by omega));replace hkl:=lhd hkl
       go_wp2_with fail
       refine hpt.out.mono ?_;rintro e w4 ⟨v4,rfl,o4,hb4⟩;obtain⟨A4,c4,rfl⟩:=o4.shape;replace o4:=lhd o4;clear hpt;dsimp only
       go_wp2_with fail
       obtain⟨w5,rfl⟩:∃w5:World,w5=w4:=⟨_,rfl⟩
       have hb5:Below w5.heap.size w5 w5:=Below.refl _ _;refine (hp1.out w5).mono ?_;rintro e w6 ⟨v6,rfl,o6,hb6⟩;obtain⟨A6,c6,rfl,-,-⟩:=o6.sees.mk_;replace o6:=lhd o6;dsimp only
       go_wp2_with fail
       refine (hp2.out w6).mono ?_;rintro e w7 ⟨v7,rfl,o7,hb7⟩;obtain⟨A7',c7',rfl,-,-⟩:=o7.sees.mk_;have hb47:=bgo (bgo hb5 hb6) hb7;replace o7:=lhd o7;have hjn7:=lhd (hjn.out w7 _ (o4.out.sees.below hb47 |>.more hb47.size));dsimp only
       go_wp2_with fail
       refine hjn7.out.mono ?_;rintro e w8 ⟨v8,rfl,o8,hb8⟩;obtain⟨A9,c9,rfl,-,-⟩:=o8.sees.mk_;have hb38:=bgo hb.out (bgo hb4 (bgo hb47 hb8));have hpd8:=lhd (hpd.out w8 _ (seesB_of t2.out nlr hb38));replace o8:=lhd o8;dsimp only
       go_wp2_with fail
       refine hpd8.out.mono ?_;rintro e w9 ⟨v9,rfl,o9,hb9⟩;obtain⟨A10,c10,rfl,-,-⟩:=o9.sees.mk_;have hb39:=bgo hb38 hb9;have hal9:=balloc w9 (.cells #[.string ⟨#[73,78,68,88]⟩,.slice A6 (putB 4 k).length c6,.string ⟨#[78,85,77,66]⟩,.slice A7' (putB 4 ns.length).length c7',.string ⟨#[80,65,84,72]⟩,.slice A9 PF.length c9,.string ⟨#[83,73,71,78]⟩,.slice A10 (pad4 rg).length c10,.string ⟨#[83,82,69,80]⟩,.slice A7 T.length c7] 173);have e6:=seesB_of o6.out.sees nlr (bgo hb7 (bgo hb8 hb9));have e7:=seesB_of o7.out.sees nlr (bgo hb8 hb9);have e8:=seesB_of o8.out.sees nlr hb9;have eT:=seesB_of sp2.out nlr hb39;have hTS:=taglit5 w9 _ _ _ _ _ (putB 4 k) (putB 4 ns.length) PF (pad4 rg) T e6 e7 e8 o9.sees eT;rw[show w9.heap.size+1=(w9.alloc (.cells #[.string ⟨#[73,78,68,88]⟩,.slice A6 (putB 4 k).length c6,.string ⟨#[78,85,77,66]⟩,.slice A7' (putB 4 ns.length).length c7',.string ⟨#[80,65,84,72]⟩,.slice A9 PF.length c9,.string ⟨#[83,73,71,78]⟩,.slice A10 (pad4 rg).length c10,.string ⟨#[83,82,69,80]⟩,.slice A7 T.length c7] 173)).heap.size from (xsa _ _).symm] at hTS;have hms:=rencode_any _ _ (ansTags k ns.length PF rg T) _ hTS nlr (by simp[ansTags]) (by
        have h1:=pad4_len rg;have h2:=putB_len 4 k;have h3:=putB_len 4 ns.length;simp only[ansTags,dataT,xmp,List.map_nil,xfc,List.flatten_nil,xla,List.length_nil]
        omega)
       have hbr:=lhd (bgo hb39 hal9);have ho9:=ho.out.below (bgo (bgo (bgo (bgo hb4 hb47) hb8) hb9) hal9);replace ho9:=lhd ho9;replace hms:=lhd hms;clear e6 e7 e8 eT hTS o4 o6 o7 o8 o9 hb4 hb5 hb6 hb7 hb8 hb9 hb38 hb39 hb47 hjn hjn7 hpd hpd8 hp1 hp2 hal9;dsimp only
       go_wp2_with fail
       refine hms.out.mono ?_;rintro e w11 ⟨v11,rfl,o11,hb11⟩;generalize encT (ansTags k ns.length PF rg T)=AB at *;obtain⟨A11,c11,rfl,-,-⟩:=o11.sees.mk_;have ho4:=ho9.out.below hb11;have hel:=Elt.of_from (v:=.slice Ar k cr) o11.sees o11.from (fun q hq=>(ho9.out.lt q hq).2)
       have hal:=balloc w11 (.cells #[.slice A11 AB.length c11] 25);have hbox:=lhd (one_cell w11 (.slice A11 AB.length c11) 25);replace ho4:=lhd (ho4.below hal);have hel4:=lhd (hel.below hal);have hb4:=lhd (bgo (bgo hbr.out hb11) hal);clear hal hel o11 hb11 hbr hms ho9 ho;dsimp only
       go_wp2_with (at_builtin;refine wpList_appL (by rfl) _ _ 30 underlying30 rfl w3.heap.size _ acc rfl ho4.out _ _ _ AB rfl hbox.out hel4.out (by have:=hkl.out;omega) hb4.out.size ?_)
       intro v' w' hW2 hb5;have hW2:=lhd hW2;have hb5:=lhd (hb4.out.trans hb5)
       go_wp2_with fail
       go_roundw
       case rel=>exact⟨k+1,by omega,by go_num,by show OwnL _ _ _ _;rw[hst.out,hab.out];exact hW2.out,hb5⟩
       case measure=>simp[intOf];omega
      obtain rfl:k=ns.length:=by omega
      have i0:¬(ns.length:Int)<(ns.length:Int):=by omega
      have b11r:=b11.out.below hb.out;have t1r:=lhd (seesB_of t1.out nlr hb.out);have ta:=lhd (Elt.of_old (w:=wr) (v:=.slice Ar ns.length cr) (seesB_of t1.out nlr (Below.refl _ _) |>.below hb.out) hb.out.size (fun q hq=>(ho.out.lt q hq).1)).2;have x6r:=x6.out.below hb.out;replace hbw:=lhd (bgo hbw.out hb.out);replace hkl:=lhd hkl;obtain⟨e0,e1,e2,-,-,-⟩:=box3_cells b11r;obtain⟨y0,y1,y2,f0,f1,f2⟩:=box3_cells x6r
      go_wp2_with fail
      have k:=box_set3 x6r (.slice A1 rs.length k1) (.int .i64 rh) (.int .i64 rn);have ks:=lhd (sees_set3 x6r (noBL3' (NoB.s none 0 0) (NoB.i 0) (NoB.i 0)) (.slice A1 rs.length k1) (.int .i64 rh) (.int .i64 rn) t1r.out);have ko:=lhd (own_set3 x6r q6.out (NoB.s none 0 0) (NoB.i 0) (NoB.i 0) (.slice A1 rs.length k1) (.int .i64 rh) (.int .i64 rn) (NoB.s _ _ _) (NoB.i _) ho.out);have kb:=lhd (below_set3 hbw.out hg6.out (.slice A1 rs.length k1) (.int .i64 rh) (.int .i64 rn));clear e0 e1 e2 y0 y1 y2 f0 f1 f2 x6r b11r;generalize ((wr.setCell ⟨g6,0,none⟩ (.slice A1 rs.length k1)).setCell ⟨g6,1,none⟩ (.int .i64 rh)).setCell ⟨g6,2,none⟩ (.int .i64 rn)=W9 at *;obtain⟨z0,z1,z2,-,-,-⟩:=box3_cells k;refine bodyPost_ret (v:=.tuple #[.agg #[.slice A1 rs.length k1,.int .i64 rh,.int .i64 rn],.slice Ar ns.length cr,.int .i64 0]) (by simp[results,results225,go_sem,z0,z1,z2]) rfl ?_;exact answer_ok hr2.out ks.out ta.out ko.out hw3.out kb.out
end Go.Proofs.YtjgepckncogdaaaGreat
