/- Contracts of functions, walks, plain facts. Conditions: those of each theorem. -/
import Derived.Test.YtjgepckncogdaaaGreatK16
import Derived.Test.YtjgepckncogdaaaGreatK15
set_option linter.unusedVariables false
set_option linter.unusedSimpArgs false
set_option maxRecDepth 100000
set_option maxHeartbeats 16000000
namespace Go.Proofs.YtjgepckncogdaaaGreat
open Go Go.RowKit _root_.Go.Proofs.Tryz
attribute [local go_sem ↓] Go.wp_at_zero Go.wp_at_succ
theorem box_set2 {W:World} {g:Nat} {T:TypeId} {a b:Value} (h:Box W g T [a,b]) (x y:Value):Box ((W.setCell ⟨g,0,none⟩ x).setCell ⟨g,1,none⟩ y) g T [x,y]:=by
 have y:=(h.set 0 x).set 1 y
 simpa only [xsz,xss] using y
theorem below_set2 {w W:World} {g:Nat} (h:Below w.heap.size w W) (hg:w.heap.size<=g) (x y:Value):Below w.heap.size w ((W.setCell ⟨g,0,none⟩ x).setCell ⟨g,1,none⟩ y):=
 (h.setCell (p:=⟨g,0,none⟩) hg _).setCell (p:=⟨g,1,none⟩) hg _
theorem parse_len {b:Bs} (h:parseC b=0):b.length<=2048:=by
 by_cases h9:2048<b.length
 ·rw[parseC,dec_long b h9] at h
  simp at h
 omega
def tBatch:Bs:=[115,101,99,116,105,109,101,32,98,97,116,99,104]
def sigN (b:Bs):Bs:=(unpadG (datN b 3)).getD []
def pathN (b:Bs):List Bs:=cutL 32 ((datN b 2).length / 32) (datN b 2)
def bsigOk (p b:Bs):Bool:=verifyG p (tBatch++datN b 4) (sigN b)
def bpathOk (n b:Bs):Bool:=checkI (datN (datN b 4) 0) (getB (datN b 1):Int) (getB (datN b 0):Int) n (pathN b)
def bverC (p n b:Bs):Int:=if n.length=32 then (if parseC b=0 then (if bsigOk p b=true then (if bpathOk n b=true then 0 else 23) else 26) else parseC b) else 3
def bverLo (p n b:Bs):Int:=if bverC p n b=0 then unLo (datN (datN b 4) 1) else 0
def bverHi (p n b:Bs):Int:=if bverC p n b=0 then unHi (datN (datN b 4) 1) else 0
def BVerP (p n b:Bs) (w:World) (e:Ending) (w':World):Prop:=e=.returned (.tuple #[.agg #[.int .i64 (bverLo p n b),.int .i64 (bverHi p n b)],.int .i64 (bverC p n b)])/\Below w.heap.size w w'
theorem bver_bad {p n b:Bs} {c:Int} (h:bverC p n b=c) (hc:c≠0) {w w':World} {e:Ending} (he:e=.returned (.tuple #[.agg #[.int .i64 0,.int .i64 0],.int .i64 c])) (hb:Below w.heap.size w w'):BVerP p n b w e w':=by
 refine⟨?_,hb⟩;rw[bverLo,bverHi,h,if_neg hc,if_neg hc];exact he
theorem bver_ok {p n b:Bs} {lo hi:Int} (h:bverC p n b=0) (h1:unLo (datN (datN b 4) 1)=lo) (h2:unHi (datN (datN b 4) 1)=hi) {w w':World} {e:Ending} (he:e=.returned (.tuple #[.agg #[.int .i64 lo,.int .i64 hi],.int .i64 0])) (hb:Below w.heap.size w w'):BVerP p n b w e w':=by
 refine⟨?_,hb⟩;rw[bverLo,bverHi,h,if_pos rfl,if_pos rfl,h1,h2];exact he
theorem cutL_each (size n:Nat) (l:Bs):∀x∈cutL size n l,x.length<=size:=by
 intro x hx;obtain⟨k,hk⟩:=List.mem_iff_getElem?.1 hx;have hl:k<n:=by
  have:=(List.getElem?_eq_some_iff.1 hk).1
  rwa [cutL_len] at this
 have:=cutL_get size n l k hl
 rw[xgd,hk] at this;rw[Option.getD_some] at this;rw[this,xlt]
 omega
theorem lit13_run (W:World) (G:Nat) (hG:G=W.heap.size):(convert 25 25 (.slice (some ⟨G,0,none⟩) 13 13)).run prog (W.alloc (.cells #[.int .u8 115,.int .u8 101,.int .u8 99,.int .u8 116,.int .u8 105,.int .u8 109,.int .u8 101,.int .u8 32,.int .u8 98,.int .u8 97,.int .u8 116,.int .u8 99,.int .u8 104] 5)).drew=.ok (.slice (some ⟨G,0,none⟩) 13 13) (W.alloc (.cells #[.int .u8 115,.int .u8 101,.int .u8 99,.int .u8 116,.int .u8 105,.int .u8 109,.int .u8 101,.int .u8 32,.int .u8 98,.int .u8 97,.int .u8 116,.int .u8 99,.int .u8 104] 5 (13,14))).drew:=by
 subst hG;exact Lib.run_convert_bytes_const W.drew 25 5 #[.int .u8 115,.int .u8 101,.int .u8 99,.int .u8 116,.int .u8 105,.int .u8 109,.int .u8 101,.int .u8 32,.int .u8 98,.int .u8 97,.int .u8 116,.int .u8 99,.int .u8 104] 13 13 underlying25 underlying5
theorem lit13_sees (W:World):SeesB (W.alloc (.cells #[.int .u8 115,.int .u8 101,.int .u8 99,.int .u8 116,.int .u8 105,.int .u8 109,.int .u8 101,.int .u8 32,.int .u8 98,.int .u8 97,.int .u8 116,.int .u8 99,.int .u8 104] 5 (13,14))) (W.heap.size+1) (.slice (some ⟨W.heap.size,0,none⟩) 13 13) tBatch:=litB_sees W tBatch (13,14) (by simp[tBatch])
theorem bverify_any (B:Nat) (u u2 u3:Value) (p n b:Bs) (w:World) (hu:SeesB w B u p) (hu2:SeesB w B u2 n) (hu3:SeesB w B u3 b) (hB:B<=w.heap.size) (hl:b.length<=1048576) :
 Calls prog 18 #[u,u2,u3] w (BVerP p n b w):=by
 obtain⟨A,c,rfl,-,-⟩:=hu.mk_;obtain⟨A2,c2,rfl,-,-⟩:=hu2.mk_;obtain⟨A3,c3,rfl,-,-⟩:=hu3.mk_
 by_cases hn:n.length=32
 ·have hb0:=balloc w (.cells #[.int .i64 0,.int .i64 0] 24)
  have hr:=Box.new w 24 [.int .i64 0,.int .i64 0];have hp:=bparse_any B _ b _ (hu3.below (hb0.mono hB)) (Nat.le_trans hB hb0.size) hl;replace hp:=lhd hp;have in0:(n.length:Int)=32:=by omega
  go_enter func18,ntmps18
  go_wp2_with fail
  refine hp.out.mono ?_;rintro e w1 hP;clear hp hu3;rcases hP with ⟨hC,rfl,hb1⟩|⟨hC,pa,si,pt,ro,rfl,spa,⟨sg,hsg,ssi⟩,spt,sro,hb1⟩
  ·have hbad:Hid (bverC p n b=parseC b):=by show _=_;rw[bverC,if_pos hn,if_neg hC]
   replace hr:=(hr.below hb1).below (balloc w1 (.cells #[.int .i64 0,.int .i64 0,.slice none 0 0,.slice none 0 0,.slice none 0 0,.slice none 0 0,.int .i64 0,.int .i64 0] 126));have hbw:=bgo (bgo hb0 hb1) (balloc w1 (.cells #[.int .i64 0,.int .i64 0,.slice none 0 0,.slice none 0 0,.slice none 0 0,.slice none 0 0,.int .i64 0,.int .i64 0] 126));replace hn:=lhd hn;generalize parseC b=E at *;have hEb:(E == 0)=false:=by rw[beq_eq_false_iff_ne];exact hC
   unfold zeroA;dsimp only
   go_upto_region 4 with (fail)
   change Box (w1.alloc (.cells #[.int .i64 0,.int .i64 0,.slice none 0 0,.slice none 0 0,.slice none 0 0,.slice none 0 0,.int .i64 0,.int .i64 0] 126)) _ _ _ at hr;generalize w1.alloc (.cells #[.int .i64 0,.int .i64 0,.slice none 0 0,.slice none 0 0,.slice none 0 0,.slice none 0 0,.int .i64 0,.int .i64 0] 126)=W2 at *;generalize hg2:w.heap.size=g2 at hr ⊢;replace hg2:=lhd hg2;have y0:=hr.cell 0;have y1:=hr.cell 1;simp only[xqz,xqs] at y0 y1;have f0:=hr.frozen 0;have f1:=hr.frozen 1;replace hbw:=lhd hbw
   go_wp2_with fail
   replace hbw:=hbw.out;have kz:=lhd (box_set2 hr (.int .i64 0) (.int .i64 0));have kb:=lhd (below_set2 hbw (Nat.le_of_eq hg2.out) (.int .i64 0) (.int .i64 0));clear y0 y1 f0 f1;generalize (W2.setCell ⟨g2,0,none⟩ (.int .i64 0)).setCell ⟨g2,1,none⟩ (.int .i64 0)=W9 at *;have z0:W9.cell? ⟨g2,0,none⟩=some (.int .i64 0):=kz.out.cell 0;have z1:W9.cell? ⟨g2,1,none⟩=some (.int .i64 0):=kz.out.cell 1;refine bodyPost_ret (v:=.tuple #[.agg #[.int .i64 0,.int .i64 0],.int .i64 E]) (by simp[results,results18,go_sem,z0,z1]) rfl ?_;exact bver_bad hbad.out hC rfl kb.out
  have hin:Hid (∀k,(datN b k).length<=b.length):=datN_len b;have hix:Hid (sigN b=sg):=by show _=_;rw[sigN,hsg];rfl
  have hcl:Hid (∀x∈pathN b,x.length<=1048576):=fun x hx=>Nat.le_trans (cutL_each _ _ _ x hx) (by omega)
  have hC1:Hid (bverC p n b=if bsigOk p b=true then (if bpathOk n b=true then 0 else 23) else 26):=by show _=_;rw[bverC,if_pos hn,if_pos hC]
  change SeesL w1 w1.heap.size pa (pathN b) at spa;have hbs:Hid (bsigOk p b=verifyG p (tBatch++datN b 4) sg):=by show _=_;rw[bsigOk,hix.out]
  have hbp:Hid (bpathOk n b=checkI (datN (datN b 4) 0) (getB (datN b 1):Int) (getB (datN b 0):Int) n (pathN b)):=rfl;have hl4:Hid ((datN b 4).length<=2048):=Nat.le_trans (datN_len b 4) (parse_len hC);have hsl:Hid (sg.length<=1048576):=by
   show _<=_;have h9:sg.length<=(datN b 3).length:=by
    unfold unpadG at hsg
    split at hsg
    ·cases hsg
    split at hsg
    ·cases hsg
     simp
     omega
    cases hsg
   exact Nat.le_trans h9 (Nat.le_trans (datN_len b 3) hl)
  have hlo:Hid (unLo (datN (datN b 4) 1)=unLo (datN (datN b 4) 1)):=rfl;have hhi:Hid (unHi (datN (datN b 4) 1)=unHi (datN (datN b 4) 1)):=rfl;generalize hlo':unLo (datN (datN b 4) 1)=lo at hlo ⊢;generalize hhi':unHi (datN (datN b 4) 1)=hi at hhi ⊢;replace hlo':=lhd hlo';replace hhi':=lhd hhi';clear hlo hhi;generalize datN (datN b 4) 0=rt at *;generalize hd4e:datN b 4=d4 at *;replace hd4e:=lhd hd4e;generalize getB (datN b 1)=nx at *;generalize getB (datN b 0)=ix at *;generalize hps:pathN b=ps at *;replace hps:=lhd hps;obtain⟨A5,c5,rfl,-,-⟩:=spa.mk_;obtain⟨A6,c6,rfl,-,-⟩:=ssi.mk_;obtain⟨A7,c7,rfl,-,-⟩:=spt.mk_;obtain⟨A8,c8,rfl,-,-⟩:=sro.mk_;have hal:=balloc w1 (.cells #[.int .i64 (ix:Int),.int .i64 (nx:Int),.slice A5 ps.length c5,.slice A6 sg.length c6,.slice A7 d4.length c7,.slice A8 rt.length c8,.int .i64 lo,.int .i64 hi] 126);have hx:=Box.new w1 126 [.int .i64 (ix:Int),.int .i64 (nx:Int),.slice A5 ps.length c5,.slice A6 sg.length c6,.slice A7 d4.length c7,.slice A8 rt.length c8,.int .i64 lo,.int .i64 hi];change Box (w1.alloc (.cells #[.int .i64 (ix:Int),.int .i64 (nx:Int),.slice A5 ps.length c5,.slice A6 sg.length c6,.slice A7 d4.length c7,.slice A8 rt.length c8,.int .i64 lo,.int .i64 hi] 126)) _ _ _ at hx;replace hr:=(hr.below hb1).below hal;have hbw:=bgo (bgo hb0 hb1) hal;have spa2:=seesL_of spa nlr hal;have ssi2:=seesB_of ssi nlr hal;have spt2:=seesB_of spt nlr hal;have sro2:=seesB_of sro nlr hal;have su:=seesB_of hu hB hbw;have su2:=seesB_of hu2 hB hbw
  clear spa ssi spt sro hu hu2 hsg hal hb0 hb1 hin;replace hC:=lhd hC;replace hn:=lhd hn;dsimp only
  go_upto_region 4 with (fail)
  generalize w1.alloc (.cells #[.int .i64 (ix:Int),.int .i64 (nx:Int),.slice A5 ps.length c5,.slice A6 sg.length c6,.slice A7 d4.length c7,.slice A8 rt.length c8,.int .i64 lo,.int .i64 hi] 126)=W2 at *;generalize w1.heap.size=G at *;generalize hg2:w.heap.size=g2 at hr ⊢;replace hg2:=lhd hg2;have K:Hid (∀W:World,Below W2.heap.size W2 W->W.cell? ⟨G,3,none⟩=some (.slice A6 sg.length c6)/\W.cell? ⟨G,4,none⟩=some (.slice A7 d4.length c7)):=fun W hW=>⟨(hx.below hW).cell 3,(hx.below hW).cell 4⟩
  obtain⟨x3,x4⟩:=K.out W2 (Below.refl _ _);have hcv:=lit13_run W2 W2.heap.size rfl;have hLS:=lit13_sees W2;have hbL:=balloc W2 (.cells #[.int .u8 115,.int .u8 101,.int .u8 99,.int .u8 116,.int .u8 105,.int .u8 109,.int .u8 101,.int .u8 32,.int .u8 98,.int .u8 97,.int .u8 116,.int .u8 99,.int .u8 104] 5 (13,14));have hfl:[tBatch,d4].flatten=tBatch++d4:=by simp
  have htl:tBatch.length=13:=rfl;have hj:Calls prog 70 #[.slice (some ⟨W2.heap.size+1,0,none⟩) 2 2] ((W2.alloc (.cells #[.int .u8 115,.int .u8 101,.int .u8 99,.int .u8 116,.int .u8 105,.int .u8 109,.int .u8 101,.int .u8 32,.int .u8 98,.int .u8 97,.int .u8 116,.int .u8 99,.int .u8 104] 5 (13,14))).alloc (.cells #[.slice (some ⟨W2.heap.size,0,none⟩) 13 13,.slice A7 d4.length c7] 25)).drew fun e w'=>∃v,e=.returned v/\OwnB w' W2.heap.size v [tBatch,d4].flatten/\Below W2.heap.size W2 w':=
   join_lit (vs:=[.slice (some ⟨W2.heap.size,0,none⟩) 13 13,.slice A7 d4.length c7]) [tBatch,d4] W2 (W2.alloc (.cells #[.int .u8 115,.int .u8 101,.int .u8 99,.int .u8 116,.int .u8 105,.int .u8 109,.int .u8 101,.int .u8 32,.int .u8 98,.int .u8 97,.int .u8 116,.int .u8 99,.int .u8 104] 5 (13,14))).drew (W2.heap.size+1) (xsa _ _) (hbL.drew) ⟨hLS.more (by show _<=(W2.alloc _).heap.size;rw[xsa];exact Nat.le_refl _),seesB_of spt2 nlr hbL.drew,trivial⟩ (by simp) (by rw[hfl];simp[htl];have:=hl4.out;omega)
  rw[hfl] at hj;have hm2:(tBatch++d4).length<=1048589:=by rw[xla,htl];have:=hl4.out;omega
  have hvf:Hid (∀W v,Below W2.heap.size W2 W->SeesB W W.heap.size v (tBatch++d4)->Calls prog 78 #[.slice A p.length c,v,.slice A6 sg.length c6] W (BoolPost (bsigOk p b) W)):=fun W v hW hv=>by
   rw[hbs.out];exact verify_any W.heap.size _ v _ p (tBatch++d4) sg W (seesB_of su nlr hW) hv (seesB_of ssi2 nlr hW) nlr (by have:=hl4.out;rw[xla,htl];omega) hsl.out
  have hck:Hid (∀W,Below W2.heap.size W2 W->Calls prog 79 #[.slice A8 rt.length c8,.int .i64 (nx:Int),.int .i64 (ix:Int),.slice A2 n.length c2,.slice A5 ps.length c5] W (BoolPost (bpathOk n b) W)):=fun W hW=>by
   rw[hbp.out];exact check_any rt (nx:Int) (ix:Int) n ps W.heap.size _ _ _ W (seesB_of sro2 nlr hW) (seesB_of su2 nlr hW) (seesL_of spa2 nlr hW) nlr (by have:=hn.out;omega) hcl.out
  generalize hTB:tBatch++d4=TB at hj hvf;replace hTB:=lhd hTB;replace hj:=lhd hj;replace hbw:=lhd hbw;replace hr:=lhd hr;replace hx:=lhd hx;generalize hsb:bsigOk p b=sok at *;generalize hpb:bpathOk n b=pok at *;replace hsb:=lhd hsb;replace hpb:=lhd hpb;clear spa2 ssi2 spt2 sro2 su su2 hLS hbL hfl htl hbs hbp hcl hm2 hl4 hsl
  go_wp2_with fail
  go_cut [24] (fun v W=>v=.bool (!sok)/\Hid (Below W2.heap.size W2 W))
  case first=>
   have a3:(W2.alloc (.cells #[.int .u8 115,.int .u8 101,.int .u8 99,.int .u8 116,.int .u8 105,.int .u8 109,.int .u8 101,.int .u8 32,.int .u8 98,.int .u8 97,.int .u8 116,.int .u8 99,.int .u8 104] 5)).cell? ⟨G,3,none⟩=some (.slice A6 sg.length c6):=(K.out _ (balloc W2 _)).1;have a4:(W2.alloc (.cells #[.int .u8 115,.int .u8 101,.int .u8 99,.int .u8 116,.int .u8 105,.int .u8 109,.int .u8 101,.int .u8 32,.int .u8 98,.int .u8 97,.int .u8 116,.int .u8 99,.int .u8 104] 5)).cell? ⟨G,4,none⟩=some (.slice A7 d4.length c7):=(K.out _ (balloc W2 _)).2;have b3:(W2.alloc (.cells #[.int .u8 115,.int .u8 101,.int .u8 99,.int .u8 116,.int .u8 105,.int .u8 109,.int .u8 101,.int .u8 32,.int .u8 98,.int .u8 97,.int .u8 116,.int .u8 99,.int .u8 104] 5 (13,14))).cell? ⟨G,3,none⟩=some (.slice A6 sg.length c6):=(K.out _ (balloc W2 _)).1;have b4:(W2.alloc (.cells #[.int .u8 115,.int .u8 101,.int .u8 99,.int .u8 116,.int .u8 105,.int .u8 109,.int .u8 101,.int .u8 32,.int .u8 98,.int .u8 97,.int .u8 116,.int .u8 99,.int .u8 104] 5 (13,14))).cell? ⟨G,4,none⟩=some (.slice A7 d4.length c7):=(K.out _ (balloc W2 _)).2;have e3:((W2.alloc (.cells #[.int .u8 115,.int .u8 101,.int .u8 99,.int .u8 116,.int .u8 105,.int .u8 109,.int .u8 101,.int .u8 32,.int .u8 98,.int .u8 97,.int .u8 116,.int .u8 99,.int .u8 104] 5 (13,14))).alloc (.cells #[.slice (some ⟨W2.heap.size,0,none⟩) 13 13,.slice A7 d4.length c7] 25)).cell? ⟨G,3,none⟩=some (.slice A6 sg.length c6):=(K.out _ (bgo (balloc W2 _) (balloc _ _))).1
   go_region_with
    (first
     | (go_at_call 78;(with_reducible refine (hvf.out _ _ hb3 h3.sees).mono ?_);rintro e w4 ⟨rfl,hb4⟩;replace hb4:=bgo hb3 hb4)
     | (go_at_call 70;(with_reducible refine hj.out.mono ?_);rintro e w3 ⟨v3,rfl,h3,hb3⟩;obtain⟨A9,c9,rfl,-,-⟩:=h3.sees.mk_;have d3:=(K.out _ hb3).1))
   all_goals
    go_wp2_with fail
    go_meet
    exact⟨rfl,hb4⟩
  case rest=>
   obtain⟨rfl,hb4⟩:=hcut;obtain⟨w4,rfl⟩:∃w4:World,w4=wc:=⟨_,rfl⟩
   replace hb4:=hb4.out;have hbw4:=bgo hbw.out hb4;clear x3 x4 hcv;have hx4:=hx.out.below hb4;replace hr:=hr.out.below hb4;have x0:=hx4.cell 0;have x1:=hx4.cell 1;have x2:=hx4.cell 2;have x5:=hx4.cell 5;simp only[xqz,xqs] at x0 x1 x2 x5;clear hj K;have hck4:=lhd (hck.out w4 hb4);clear hck hvf;replace hbw:=hbw4;clear hbw4;cases sok with
   | false=>
     have hbad:Hid (bverC p n b=26):=by show _=_;rw[hC1.out];simp
     clear x0 x1 x2 x5 hck4;have y0:=hr.cell 0;have y1:=hr.cell 1;simp only[xqz,xqs] at y0 y1;have f0:=hr.frozen 0;have f1:=hr.frozen 1;replace hbw:=lhd hbw
     go_wp2_with fail
     replace hbw:=hbw.out;have kz:=lhd (box_set2 hr (.int .i64 0) (.int .i64 0));have kb:=lhd (below_set2 hbw (Nat.le_of_eq hg2.out) (.int .i64 0) (.int .i64 0));clear y0 y1 f0 f1;generalize (w4.setCell ⟨g2,0,none⟩ (.int .i64 0)).setCell ⟨g2,1,none⟩ (.int .i64 0)=W9 at *;have z0:W9.cell? ⟨g2,0,none⟩=some (.int .i64 0):=kz.out.cell 0;have z1:W9.cell? ⟨g2,1,none⟩=some (.int .i64 0):=kz.out.cell 1;refine bodyPost_ret (v:=.tuple #[.agg #[.int .i64 0,.int .i64 0],.int .i64 26]) (by simp[results,results18,go_sem,z0,z1]) rfl ?_;exact bver_bad hbad.out (by decide) rfl kb.out
   | true=>
     replace hbw:=lhd hbw
     go_wp2_with fail
     refine hck4.out.mono ?_;rintro e w5 ⟨rfl,hb5⟩;replace hbw:=bgo hbw.out hb5;replace hr:=hr.below hb5;have hx5:=hx4.below hb5;clear x0 x1 x2 x5 hck4 hx4;cases pok with
     | false=>
       have hbad:Hid (bverC p n b=23):=by show _=_;rw[hC1.out];simp
       have y0:=hr.cell 0;have y1:=hr.cell 1;simp only[xqz,xqs] at y0 y1;have f0:=hr.frozen 0;have f1:=hr.frozen 1;replace hbw:=lhd hbw
       go_wp2_with fail
       replace hbw:=hbw.out;have kz:=lhd (box_set2 hr (.int .i64 0) (.int .i64 0));have kb:=lhd (below_set2 hbw (Nat.le_of_eq hg2.out) (.int .i64 0) (.int .i64 0));clear y0 y1 f0 f1;generalize (w5.setCell ⟨g2,0,none⟩ (.int .i64 0)).setCell ⟨g2,1,none⟩ (.int .i64 0)=W9 at *;have z0:W9.cell? ⟨g2,0,none⟩=some (.int .i64 0):=kz.out.cell 0;have z1:W9.cell? ⟨g2,1,none⟩=some (.int .i64 0):=kz.out.cell 1;refine bodyPost_ret (v:=.tuple #[.agg #[.int .i64 0,.int .i64 0],.int .i64 23]) (by simp[results,results18,go_sem,z0,z1]) rfl ?_;exact bver_bad hbad.out (by decide) rfl kb.out
     | true=>
       have hok:Hid (bverC p n b=0):=by show _=_;rw[hC1.out];simp
       have x6:=hx5.cell 6;have x7:=hx5.cell 7;simp only[xqz,xqs] at x6 x7;have y0:=hr.cell 0;have y1:=hr.cell 1;simp only[xqz,xqs] at y0 y1;have f0:=hr.frozen 0;have f1:=hr.frozen 1;replace hbw:=lhd hbw
       go_wp2_with fail
       replace hbw:=hbw.out;have kz:=lhd (box_set2 hr (.int .i64 lo) (.int .i64 hi));have kb:=lhd (below_set2 hbw (Nat.le_of_eq hg2.out) (.int .i64 lo) (.int .i64 hi));clear y0 y1 f0 f1;generalize (w5.setCell ⟨g2,0,none⟩ (.int .i64 lo)).setCell ⟨g2,1,none⟩ (.int .i64 hi)=W9 at *;have z0:W9.cell? ⟨g2,0,none⟩=some (.int .i64 lo):=kz.out.cell 0;have z1:W9.cell? ⟨g2,1,none⟩=some (.int .i64 hi):=kz.out.cell 1;refine bodyPost_ret (v:=.tuple #[.agg #[.int .i64 lo,.int .i64 hi],.int .i64 0]) (by simp[results,results18,go_sem,z0,z1]) rfl ?_;exact bver_ok hok.out (by rw[hd4e.out];exact hlo'.out) (by rw[hd4e.out];exact hhi'.out) rfl kb.out
 have in0:¬((n.length:Int)=32):=by omega
 have hbad:Hid (bverC p n b=3):=by show _=_;rw[bverC,if_neg hn]
 clear hu hu2 hu3 hn
 go_enter func18,ntmps18
 go_wp2_with fail
 go_returns
 exact bver_bad hbad.out (by decide) rfl (by go_grown)
end Go.Proofs.YtjgepckncogdaaaGreat
