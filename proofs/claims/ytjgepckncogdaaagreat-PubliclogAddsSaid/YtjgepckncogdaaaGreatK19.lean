/- Contracts of functions, walks, plain facts. Conditions: those of each theorem. -/
import Derived.Test.YtjgepckncogdaaaGreatK15
set_option linter.unusedVariables false
set_option linter.unusedSimpArgs false
set_option maxRecDepth 100000
set_option maxHeartbeats 16000000
namespace Go.Proofs.YtjgepckncogdaaaGreat
open Go Go.RowKit _root_.Go.Proofs.Tryz
attribute [local go_sem ↓] Go.wp_at_zero Go.wp_at_succ
def tGrant:Bs:=[115,101,99,116,105,109,101,32,103,114,97,110,116]
theorem bgoD {w W0 W:World} {g:Nat} (h1:Below g w W0) (h2:Below W0.heap.size W0 W) (hg:g=w.heap.size):Below w.heap.size w W:=by
 subst hg;exact bgo h1 h2
theorem dwindow_any (A:Option Addr) (n c:Nat) (A2:Option Addr) (n2 c2:Nat) (f t:Int) (w:World):Calls prog 128 #[.agg #[.slice A n c,.int .i64 f,.int .i64 t,.slice A2 n2 c2]] w fun e w'=>e=.returned (.agg #[.int .i64 f,.int .i64 t])/\Below w.heap.size w w':=by
 go_enter func128,ntmps128
 go_wp2_with fail
 refine bodyPost_ret (v:=.agg #[.int .i64 f,.int .i64 t]) (by simp[results,results128,go_sem]) rfl ⟨rfl,by go_grown⟩
theorem rwindow_any (A:Option Addr) (n c:Nat) (A2:Option Addr) (n2 c2:Nat) (f t:Int) (w:World):Calls prog 226 #[.agg #[.slice A n c,.int .i64 f,.int .i64 t,.slice A2 n2 c2]] w fun e w'=>e=.returned (.agg #[.int .i64 f,.int .i64 t])/\Below w.heap.size w w':=by
 go_enter func226,ntmps226
 go_wp2_with fail
 refine bodyPost_ret (v:=.agg #[.int .i64 f,.int .i64 t]) (by simp[results,results226,go_sem]) rfl ⟨rfl,by go_grown⟩
theorem litG_run (W:World) (G:Nat) (hG:G=W.heap.size):(convert 25 25 (.slice (some ⟨G,0,none⟩) 13 13)).run prog (W.alloc (.cells #[.int .u8 115,.int .u8 101,.int .u8 99,.int .u8 116,.int .u8 105,.int .u8 109,.int .u8 101,.int .u8 32,.int .u8 103,.int .u8 114,.int .u8 97,.int .u8 110,.int .u8 116] 5))=.ok (.slice (some ⟨G,0,none⟩) 13 13) (W.alloc (.cells #[.int .u8 115,.int .u8 101,.int .u8 99,.int .u8 116,.int .u8 105,.int .u8 109,.int .u8 101,.int .u8 32,.int .u8 103,.int .u8 114,.int .u8 97,.int .u8 110,.int .u8 116] 5 (13,14))):=by
 subst hG;exact Lib.run_convert_bytes_const W 25 5 #[.int .u8 115,.int .u8 101,.int .u8 99,.int .u8 116,.int .u8 105,.int .u8 109,.int .u8 101,.int .u8 32,.int .u8 103,.int .u8 114,.int .u8 97,.int .u8 110,.int .u8 116] 13 13 underlying25 underlying5
theorem litG_sees (W:World):SeesB (W.alloc (.cells #[.int .u8 115,.int .u8 101,.int .u8 99,.int .u8 116,.int .u8 105,.int .u8 109,.int .u8 101,.int .u8 32,.int .u8 103,.int .u8 114,.int .u8 97,.int .u8 110,.int .u8 116] 5 (13,14))) (W.heap.size+1) (.slice (some ⟨W.heap.size,0,none⟩) 13 13) tGrant:=litB_sees W tGrant (13,14) (by simp[tGrant])
theorem dsigned_any (B:Nat) (u:Value) (As:Option Addr) (ns cs:Nat) (p:Bs) (f t:Int) (w:World) (hu:SeesB w B u p) (hB:B<=w.heap.size) (hp:p.length<=1048576) :
 Calls prog 256 #[.agg #[u,.int .i64 f,.int .i64 t,.slice As ns cs]] w (Gives (tGrant++p++spanL f t) w):=by
 obtain⟨A,c,rfl,-,-⟩:=hu.mk_;have hal:=balloc w (.cells #[.slice A p.length c,.int .i64 f,.int .i64 t,.slice As ns cs] 94);have hx:=Box.new w 94 [.slice A p.length c,.int .i64 f,.int .i64 t,.slice As ns cs];change Box (w.alloc (.cells #[.slice A p.length c,.int .i64 f,.int .i64 t,.slice As ns cs] 94)) _ _ _ at hx;have sp:=seesB_of hu hB hal;have hsl:(spanL f t).length<=16:=by unfold spanL;split<;>simp[spanB,putB_len]
 replace sp:=lhd sp;clear hu
 go_enter func256,ntmps256
 go_wp2_with fail
 refine (dwindow_any A p.length c As ns cs f t _).mono ?_;rintro e w1 ⟨rfl,hb1⟩;dsimp only
 go_wp2_with fail
 refine (span_any f t _).mono ?_;rintro e w2 ⟨v,rfl,h2,hb2⟩;have hb02:=bgo hb1 hb2;have hx2:=hx.below hb02;have sp2:=seesB_of sp.out nlr hb02;have hbw:=bgo hal hb02;have ssp:=h2.sees;obtain⟨A2,c2,rfl,-,-⟩:=h2.sees.mk_;generalize spanL f t=SL at *;have hcv:=litG_run w2 w2.heap.size rfl;have hbL:=balloc w2 (.cells #[.int .u8 115,.int .u8 101,.int .u8 99,.int .u8 116,.int .u8 105,.int .u8 109,.int .u8 101,.int .u8 32,.int .u8 103,.int .u8 114,.int .u8 97,.int .u8 110,.int .u8 116] 5 (13,14));have x0:(w2.alloc (.cells #[.int .u8 115,.int .u8 101,.int .u8 99,.int .u8 116,.int .u8 105,.int .u8 109,.int .u8 101,.int .u8 32,.int .u8 103,.int .u8 114,.int .u8 97,.int .u8 110,.int .u8 116] 5 (13,14))).cell? ⟨w.heap.size,0,none⟩=some (.slice A p.length c):=(hx2.below hbL).cell 0;have hLS:=litG_sees w2;have hfl:[tGrant,p,SL].flatten=tGrant++p++SL:=by simp
 have htl:tGrant.length=13:=rfl;have hj:Calls prog 70 #[.slice (some ⟨w2.heap.size+1,0,none⟩) 3 3] ((w2.alloc (.cells #[.int .u8 115,.int .u8 101,.int .u8 99,.int .u8 116,.int .u8 105,.int .u8 109,.int .u8 101,.int .u8 32,.int .u8 103,.int .u8 114,.int .u8 97,.int .u8 110,.int .u8 116] 5 (13,14))).alloc (.cells #[.slice (some ⟨w2.heap.size,0,none⟩) 13 13,.slice A p.length c,.slice A2 SL.length c2] 25)) fun e w'=>∃v,e=.returned v/\OwnB w' w2.heap.size v [tGrant,p,SL].flatten/\Below w2.heap.size w2 w':=
  join_lit (vs:=[.slice (some ⟨w2.heap.size,0,none⟩) 13 13,.slice A p.length c,.slice A2 SL.length c2]) [tGrant,p,SL] w2 (w2.alloc (.cells #[.int .u8 115,.int .u8 101,.int .u8 99,.int .u8 116,.int .u8 105,.int .u8 109,.int .u8 101,.int .u8 32,.int .u8 103,.int .u8 114,.int .u8 97,.int .u8 110,.int .u8 116] 5 (13,14))) (w2.heap.size+1) (xsa _ _) hbL ⟨hLS.more (by rw[xsa];exact Nat.le_refl _),seesB_of sp2 nlr hbL,seesB_of ssp nlr hbL,trivial⟩ (by simp) (by rw[hfl,xla,xla,htl];omega)
 rw[hfl] at hj;generalize hM:tGrant++p++SL=M at *;replace hM:=lhd hM;replace hj:=lhd hj;replace hbw:=lhd hbw;clear sp sp2 ssp hLS hbL hx hx2 hb1 hb2 hb02 hal h2;dsimp only
 go_wp2_with fail
 refine hj.out.mono ?_;rintro e w3 ⟨v3,rfl,h3,hb3⟩;dsimp only
 go_wp2_with fail
 go_ret
 exact⟨v3,rfl,h3.mono hbw.out.size,bgo hbw.out hb3⟩
theorem rtext_any (B:Nat) (u:Value) (p:Bs) (f t:Int) (w:World) (hu:SeesB w B u p) (hB:B<=w.heap.size) (hp:p.length<=1048576) :
 Calls prog 192 #[u,.int .i64 f,.int .i64 t] w (Gives (tGrant++p++spanB f t) w):=by
 obtain⟨A,c,rfl,-,-⟩:=hu.mk_;have hcv:=litG_run w w.heap.size rfl;have hbL:=balloc w (.cells #[.int .u8 115,.int .u8 101,.int .u8 99,.int .u8 116,.int .u8 105,.int .u8 109,.int .u8 101,.int .u8 32,.int .u8 103,.int .u8 114,.int .u8 97,.int .u8 110,.int .u8 116] 5 (13,14));have hLS:=litG_sees w;have sp:=seesB_of hu hB hbL;have hsl:(spanB f t).length<=16:=by simp[spanB,putB_len]
 have hLS2:=lhd (hLS.more (show w.heap.size+1<=(w.alloc (.cells #[.int .u8 115,.int .u8 101,.int .u8 99,.int .u8 116,.int .u8 105,.int .u8 109,.int .u8 101,.int .u8 32,.int .u8 103,.int .u8 114,.int .u8 97,.int .u8 110,.int .u8 116] 5 (13,14))).heap.size by rw[xsa];exact Nat.le_refl _));replace sp:=lhd sp;clear hu hLS
 go_enter func192,ntmps192
 go_wp2_with fail
 refine (rspanbytes_any f t _).mono ?_;rintro e w1 ⟨v1,rfl,h1,hb1⟩;have ssp:=h1.sees;obtain⟨A1,c1,rfl,-,-⟩:=h1.sees.mk_;have sp1:=seesB_of sp.out nlr hb1;have sl1:=seesB_of hLS2.out nlr hb1;have hbw:=bgo hbL hb1;generalize hG:w.heap.size=G at sl1 ⊢;replace hG:=lhd hG;generalize spanB f t=SL at *;have hfl:[tGrant,p,SL].flatten=tGrant++p++SL:=by simp
 have htl:tGrant.length=13:=rfl;have hj:=rjoin_lit (vs:=[.slice (some ⟨G,0,none⟩) 13 13,.slice A p.length c,.slice A1 SL.length c1]) [tGrant,p,SL] w1 w1 w1.heap.size rfl (Below.refl _ _) ⟨sl1,sp1,ssp,trivial⟩ (by simp) (by rw[hfl,xla,xla,htl];omega);rw[hfl] at hj;generalize hM:tGrant++p++SL=M at *;replace hM:=lhd hM;replace hj:=lhd hj;replace hbw:=lhd hbw;clear sp sp1 sl1 ssp hbL hLS2 hb1 h1 hcv;dsimp only
 go_wp2_with fail
 refine hj.out.mono ?_;rintro e w3 ⟨v3,rfl,h3,hb3⟩;dsimp only
 go_wp2_with fail
 go_ret
 exact⟨v3,rfl,h3.mono hbw.out.size,bgo hbw.out hb3⟩
def dcheckC (l p:Bs) (f t:Int) (s:Bs):Int:=if l.length=32/\p.length=32 then (if vS f t then (if verifyG l (tGrant++p++spanB f t) s then 0 else 26) else 3) else 5
def DChkP (l p:Bs) (f t:Int) (s:Bs) (w:World) (e:Ending) (w':World):Prop:=e=.returned (.int .i64 (dcheckC l p f t s))/\Below w.heap.size w w'
theorem chk_ret {l p s:Bs} {f t c:Int} (h:dcheckC l p f t s=c) {w w':World} {e:Ending} (he:e=.returned (.int .i64 c)) (hb:Below w.heap.size w w'):DChkP l p f t s w e w':=⟨by rw[h];exact he,hb⟩
theorem dcheck_any (B:Nat) (u u2 u3:Value) (l p s:Bs) (f t:Int) (w:World) (hu:SeesB w B u l) (hu2:SeesB w B u2 p) (hu3:SeesB w B u3 s) (hB:B<=w.heap.size) (hs:s.length<=1048576) :
 Calls prog 199 #[u,.agg #[u2,.int .i64 f,.int .i64 t,u3]] w (DChkP l p f t s w):=by
 obtain⟨Al,cl,rfl,-,-⟩:=hu.mk_;obtain⟨Ap,cp,rfl,-,-⟩:=hu2.mk_;obtain⟨As,cs,rfl,-,-⟩:=hu3.mk_;have hal:=balloc w (.cells #[.slice Ap p.length cp,.int .i64 f,.int .i64 t,.slice As s.length cs] 94);have hx:=Box.new w 94 [.slice Ap p.length cp,.int .i64 f,.int .i64 t,.slice As s.length cs];change Box (w.alloc (.cells #[.slice Ap p.length cp,.int .i64 f,.int .i64 t,.slice As s.length cs] 94)) _ _ _ at hx;have sl:=seesB_of hu hB hal;have sp:=seesB_of hu2 hB hal;have ss:=seesB_of hu3 hB hal;have hd:Hid (dcheckC l p f t s=if l.length=32/\p.length=32 then (if vS f t then (if verifyG l (tGrant++p++spanB f t) s then 0 else 26) else 3) else 5):=rfl;have bx:=fun j=>hx.cell j
 have y0:=hx.cell 0;have y1:=hx.cell 1;have y2:=hx.cell 2;have y3:=hx.cell 3;simp only[xqz,xqs] at y0 y1 y2 y3;clear hu hu2 hu3 bx
 by_cases hl:l.length=32
 ·have il:((l.length:Int) != 32)=false:=by simp;omega
  by_cases hp:p.length=32
  ·have ip:((p.length:Int) != 32)=false:=by simp;omega
   replace y0:=lhd y0;have hwn:=lhd (fun W=>dwindow_any Ap p.length cp As s.length cs f t W);have hva:=lhd (fun W=>valid_any f t W);have hm:(tGrant++p++spanB f t).length<=65535:=by rw[xla,xla];simp[tGrant,spanB,putB_len];omega
   replace hal:=lhd hal;cases hv:vS f t with
   | false=>
     have hC:Hid (dcheckC l p f t s=3):=by show _=_;rw[hd.out,if_pos ⟨hl,hp⟩,hv];rfl
     rw[hv] at hva;replace hl:=lhd hl;replace hp:=lhd hp;replace hv:=lhd hv;replace hm:=lhd hm;clear sl sp ss hd
     go_enter func199,ntmps199
     go_upto_region 1 with (fail)
     generalize w.alloc (.cells #[.slice Ap p.length cp,.int .i64 f,.int .i64 t,.slice As s.length cs] 94)=W0 at *;generalize hgg:w.heap.size=g at hx y0 y1 y2 y3 hal ⊢;replace hgg:=lhd hgg;have x0:=y0.out
     go_wp2_with fail
     refine (hwn.out _).mono ?_;rintro e w1 ⟨rfl,hb1⟩;dsimp only
     go_wp2_with fail
     refine (hva.out _).mono ?_;rintro e w2 ⟨rfl,hb2⟩;dsimp only
     go_wp2_with fail
     go_returns
     exact chk_ret hC.out rfl (bgoD hal.out (bgo hb1 hb2) hgg.out.symm)
   | true=>
     have hC:Hid (dcheckC l p f t s=if verifyG l (tGrant++p++spanB f t) s then 0 else 26):=by show _=_;rw[hd.out,if_pos ⟨hl,hp⟩,hv];rfl
     rw[hv] at hva;have hsg:=fun (W:World) (hW:Below (w.alloc (.cells #[.slice Ap p.length cp,.int .i64 f,.int .i64 t,.slice As s.length cs] 94)).heap.size (w.alloc (.cells #[.slice Ap p.length cp,.int .i64 f,.int .i64 t,.slice As s.length cs] 94)) W)=>(show Calls prog 256 #[.agg #[.slice Ap p.length cp,.int .i64 f,.int .i64 t,.slice As s.length cs]] W (Gives (tGrant++p++spanB f t) W) from by
     have h9:=dsigned_any W.heap.size (.slice Ap p.length cp) As s.length cs p f t W (seesB_of sp nlr hW) nlr (by omega);rw[show spanL f t=spanB f t by rw[spanL,if_pos hv]] at h9;exact h9)
     have hvr:=fun (W:World) (v:Value) (hW:Below (w.alloc (.cells #[.slice Ap p.length cp,.int .i64 f,.int .i64 t,.slice As s.length cs] 94)).heap.size (w.alloc (.cells #[.slice Ap p.length cp,.int .i64 f,.int .i64 t,.slice As s.length cs] 94)) W) (hv:SeesB W W.heap.size v (tGrant++p++spanB f t))=>verify_any W.heap.size (.slice Al l.length cl) v (.slice As s.length cs) l (tGrant++p++spanB f t) s W (seesB_of sl nlr hW) hv (seesB_of ss nlr hW) nlr (by omega) hs
     generalize verifyG l (tGrant++p++spanB f t) s=V at *;generalize tGrant++p++spanB f t=M at *;replace hsg:=lhd hsg;replace hvr:=lhd hvr;replace hl:=lhd hl;replace hp:=lhd hp;replace hv:=lhd hv;replace hm:=lhd hm;clear sl sp ss hd
     go_enter func199,ntmps199
     go_upto_region 1 with (fail)
     generalize w.alloc (.cells #[.slice Ap p.length cp,.int .i64 f,.int .i64 t,.slice As s.length cs] 94)=W0 at *;generalize hgg:w.heap.size=g at hx y0 y1 y2 y3 hal ⊢;replace hgg:=lhd hgg;have x0:=y0.out
     go_wp2_with fail
     refine (hwn.out _).mono ?_;rintro e w1 ⟨rfl,hb1⟩;dsimp only
     go_wp2_with fail
     refine (hva.out _).mono ?_;rintro e w2 ⟨rfl,hb2⟩;have hb02:=bgo hb1 hb2;have hx2:=hx.below hb02;clear x0 y0 y1 y2 y3 hb1 hb2 hwn hva;have K:Hid (∀W:World,Below w2.heap.size w2 W->W.cell? ⟨g,0,none⟩=some (.slice Ap p.length cp)/\W.cell? ⟨g,1,none⟩=some (.int .i64 f)/\W.cell? ⟨g,2,none⟩=some (.int .i64 t)/\W.cell? ⟨g,3,none⟩=some (.slice As s.length cs)):=fun W hW=>⟨(hx2.below hW).cell 0,(hx2.below hW).cell 1,(hx2.below hW).cell 2,(hx2.below hW).cell 3⟩
     obtain⟨x0,x1,x2,x3⟩:=K.out w2 (Below.refl _ _);have hsg2:=lhd (hsg.out w2.drew (hb02.drew));replace hb02:=lhd hb02;replace hx:=lhd hx;replace hx2:=lhd hx2;clear hsg;dsimp only
     go_wp2_with fail
     go_region_held3 (fun W':World=>W'.cell? ⟨g,0,none⟩=some (.slice Ap p.length cp)/\W'.cell? ⟨g,1,none⟩=some (.int .i64 f)/\W'.cell? ⟨g,2,none⟩=some (.int .i64 t)/\W'.cell? ⟨g,3,none⟩=some (.slice As s.length cs))
      (first | (with_reducible exact K.out _ hb4) | (with_reducible exact K.out _ hb3) | exact K.out _ (by (repeat (first | exact Below.refl _ _ | (refine bgo ?_ (balloc _ _)) | (refine bgo ?_ (bdrew _)) | (refine bgo ?_ (by assumption))))) | (go_keep;done))
      (first
       | (go_at_call 78;(with_reducible refine (hvr.out _ _ (bgo hb02.out hb3) h3.sees).mono ?_);rintro e w4 ⟨rfl,hb4⟩;replace hb4:=bgo hb3 hb4)
       | (go_at_call 256;(with_reducible refine hsg2.out.mono ?_);rintro e w3 ⟨v3,rfl,h3,hb3⟩;replace hb3:=bgo (bdrew w2) hb3;obtain⟨A3,c3,rfl,-,-⟩:=h3.sees.mk_))
     all_goals
      have hfin:=bgo hb02.out hb4;clear x0 x1 x2 x3 K hsg2 hvr h3 hb3 hb4;cases V with
      | false=>
        go_wp2_with fail
        go_returns
        exact chk_ret (by rw[hC.out];rfl) rfl (bgoD hal.out hfin hgg.out.symm)
      | true=>
        go_wp2_with fail
        go_returns
        exact chk_ret (by rw[hC.out];rfl) rfl (bgoD hal.out hfin hgg.out.symm)
  have ip:((p.length:Int) != 32)=true:=by simp;omega
  have hC:Hid (dcheckC l p f t s=5):=by show _=_;rw[hd.out,if_neg (by omega)]
  clear sl sp ss hd hp y1 y2 y3;replace hl:=lhd hl
  go_enter func199,ntmps199
  go_wp2_with fail
  go_returns
  exact chk_ret hC.out rfl hal
 have il:((l.length:Int) != 32)=true:=by simp;omega
 have hC:Hid (dcheckC l p f t s=5):=by show _=_;rw[hd.out,if_neg (by omega)]
 clear sl sp ss hd y0 y1 y2 y3 hl
 go_enter func199,ntmps199
 go_wp2_with fail
 go_returns
 exact chk_ret hC.out rfl hal
theorem rdcheck_any (B:Nat) (u u2 u3:Value) (l p s:Bs) (f t:Int) (w:World) (hu:SeesB w B u l) (hu2:SeesB w B u2 p) (hu3:SeesB w B u3 s) (hB:B<=w.heap.size) (hs:s.length<=1048576) :
 Calls prog 270 #[u,.agg #[u2,.int .i64 f,.int .i64 t,u3]] w (DChkP l p f t s w):=by
 obtain⟨Al,cl,rfl,-,-⟩:=hu.mk_;obtain⟨Ap,cp,rfl,-,-⟩:=hu2.mk_;obtain⟨As,cs,rfl,-,-⟩:=hu3.mk_;have hal:=balloc w (.cells #[.slice Ap p.length cp,.int .i64 f,.int .i64 t,.slice As s.length cs] 94);have hx:=Box.new w 94 [.slice Ap p.length cp,.int .i64 f,.int .i64 t,.slice As s.length cs];change Box (w.alloc (.cells #[.slice Ap p.length cp,.int .i64 f,.int .i64 t,.slice As s.length cs] 94)) _ _ _ at hx;have sl:=seesB_of hu hB hal;have sp:=seesB_of hu2 hB hal;have ss:=seesB_of hu3 hB hal;have hd:Hid (dcheckC l p f t s=if l.length=32/\p.length=32 then (if vS f t then (if verifyG l (tGrant++p++spanB f t) s then 0 else 26) else 3) else 5):=rfl;have bx:=fun j=>hx.cell j
 have y0:=hx.cell 0;have y1:=hx.cell 1;have y2:=hx.cell 2;have y3:=hx.cell 3;simp only[xqz,xqs] at y0 y1 y2 y3;clear hu hu2 hu3 bx
 by_cases hl:l.length=32
 ·have il:((l.length:Int) != 32)=false:=by simp;omega
  by_cases hp:p.length=32
  ·have ip:((p.length:Int) != 32)=false:=by simp;omega
   replace y0:=lhd y0;have hwn:=lhd (fun W=>rwindow_any Ap p.length cp As s.length cs f t W);have hva:=lhd (fun W=>rvalid_any f t W);have hm:(tGrant++p++spanB f t).length<=65535:=by rw[xla,xla];simp[tGrant,spanB,putB_len];omega
   replace hal:=lhd hal;cases hv:vS f t with
   | false=>
     have hC:Hid (dcheckC l p f t s=3):=by show _=_;rw[hd.out,if_pos ⟨hl,hp⟩,hv];rfl
     rw[hv] at hva;replace hl:=lhd hl;replace hp:=lhd hp;replace hv:=lhd hv;replace hm:=lhd hm;clear sl sp ss hd
     go_enter func270,ntmps270
     go_upto_region 1 with (fail)
     generalize w.alloc (.cells #[.slice Ap p.length cp,.int .i64 f,.int .i64 t,.slice As s.length cs] 94)=W0 at *;generalize hgg:w.heap.size=g at hx y0 y1 y2 y3 hal ⊢;replace hgg:=lhd hgg;have x0:=y0.out
     go_wp2_with fail
     refine (hwn.out _).mono ?_;rintro e w1 ⟨rfl,hb1⟩;dsimp only
     go_wp2_with fail
     refine (hva.out _).mono ?_;rintro e w2 ⟨rfl,hb2⟩;dsimp only
     go_wp2_with fail
     go_returns
     exact chk_ret hC.out rfl (bgoD hal.out (bgo hb1 hb2) hgg.out.symm)
   | true=>
     have hC:Hid (dcheckC l p f t s=if verifyG l (tGrant++p++spanB f t) s then 0 else 26):=by show _=_;rw[hd.out,if_pos ⟨hl,hp⟩,hv];rfl
     rw[hv] at hva;have hsg:=fun (W:World) (hW:Below (w.alloc (.cells #[.slice Ap p.length cp,.int .i64 f,.int .i64 t,.slice As s.length cs] 94)).heap.size (w.alloc (.cells #[.slice Ap p.length cp,.int .i64 f,.int .i64 t,.slice As s.length cs] 94)) W)=>(show Calls prog 192 #[.slice Ap p.length cp,.int .i64 f,.int .i64 t] W (Gives (tGrant++p++spanB f t) W) from rtext_any W.heap.size _ p f t W (seesB_of sp nlr hW) nlr (by omega))
     have hvr:=fun (W:World) (v:Value) (hW:Below (w.alloc (.cells #[.slice Ap p.length cp,.int .i64 f,.int .i64 t,.slice As s.length cs] 94)).heap.size (w.alloc (.cells #[.slice Ap p.length cp,.int .i64 f,.int .i64 t,.slice As s.length cs] 94)) W) (hv:SeesB W W.heap.size v (tGrant++p++spanB f t))=>rverify_any W.heap.size (.slice Al l.length cl) v (.slice As s.length cs) l (tGrant++p++spanB f t) s W (seesB_of sl nlr hW) hv (seesB_of ss nlr hW) nlr (by omega) hs
     generalize verifyG l (tGrant++p++spanB f t) s=V at *;generalize tGrant++p++spanB f t=M at *;replace hsg:=lhd hsg;replace hvr:=lhd hvr;replace hl:=lhd hl;replace hp:=lhd hp;replace hv:=lhd hv;replace hm:=lhd hm;clear sl sp ss hd
     go_enter func270,ntmps270
     go_upto_region 1 with (fail)
     generalize w.alloc (.cells #[.slice Ap p.length cp,.int .i64 f,.int .i64 t,.slice As s.length cs] 94)=W0 at *;generalize hgg:w.heap.size=g at hx y0 y1 y2 y3 hal ⊢;replace hgg:=lhd hgg;have x0:=y0.out
     go_wp2_with fail
     refine (hwn.out _).mono ?_;rintro e w1 ⟨rfl,hb1⟩;dsimp only
     go_wp2_with fail
     refine (hva.out _).mono ?_;rintro e w2 ⟨rfl,hb2⟩;have hb02:=bgo hb1 hb2;have hx2:=hx.below hb02;clear x0 y0 y1 y2 y3 hb1 hb2 hwn hva;have K:Hid (∀W:World,Below w2.heap.size w2 W->W.cell? ⟨g,0,none⟩=some (.slice Ap p.length cp)/\W.cell? ⟨g,1,none⟩=some (.int .i64 f)/\W.cell? ⟨g,2,none⟩=some (.int .i64 t)/\W.cell? ⟨g,3,none⟩=some (.slice As s.length cs)):=fun W hW=>⟨(hx2.below hW).cell 0,(hx2.below hW).cell 1,(hx2.below hW).cell 2,(hx2.below hW).cell 3⟩
     obtain⟨x0,x1,x2,x3⟩:=K.out w2 (Below.refl _ _);have hsg2:=lhd (hsg.out w2.drew (hb02.drew));replace hb02:=lhd hb02;replace hx:=lhd hx;replace hx2:=lhd hx2;clear hsg;dsimp only
     go_wp2_with fail
     go_region_held3 (fun W':World=>W'.cell? ⟨g,0,none⟩=some (.slice Ap p.length cp)/\W'.cell? ⟨g,1,none⟩=some (.int .i64 f)/\W'.cell? ⟨g,2,none⟩=some (.int .i64 t)/\W'.cell? ⟨g,3,none⟩=some (.slice As s.length cs))
      (first | (with_reducible exact K.out _ hb4) | (with_reducible exact K.out _ hb3) | exact K.out _ (by (repeat (first | exact Below.refl _ _ | (refine bgo ?_ (balloc _ _)) | (refine bgo ?_ (bdrew _)) | (refine bgo ?_ (by assumption))))) | (go_keep;done))
      (first
       | (go_at_call 116;(with_reducible refine (hvr.out _ _ (bgo hb02.out hb3) h3.sees).mono ?_);rintro e w4 ⟨rfl,hb4⟩;replace hb4:=bgo hb3 hb4)
       | (go_at_call 192;(with_reducible refine hsg2.out.mono ?_);rintro e w3 ⟨v3,rfl,h3,hb3⟩;replace hb3:=bgo (bdrew w2) hb3;obtain⟨A3,c3,rfl,-,-⟩:=h3.sees.mk_))
     all_goals
      have hfin:=bgo hb02.out hb4;clear x0 x1 x2 x3 K hsg2 hvr h3 hb3 hb4;cases V with
      | false=>
        go_wp2_with fail
        go_returns
        exact chk_ret (by rw[hC.out];rfl) rfl (bgoD hal.out hfin hgg.out.symm)
      | true=>
        go_wp2_with fail
        go_returns
        exact chk_ret (by rw[hC.out];rfl) rfl (bgoD hal.out hfin hgg.out.symm)
  have ip:((p.length:Int) != 32)=true:=by simp;omega
  have hC:Hid (dcheckC l p f t s=5):=by show _=_;rw[hd.out,if_neg (by omega)]
  clear sl sp ss hd hp y1 y2 y3;replace hl:=lhd hl
  go_enter func270,ntmps270
  go_wp2_with fail
  go_returns
  exact chk_ret hC.out rfl hal
 have il:((l.length:Int) != 32)=true:=by simp;omega
 have hC:Hid (dcheckC l p f t s=5):=by show _=_;rw[hd.out,if_neg (by omega)]
 clear sl sp ss hd y0 y1 y2 y3 hl
 go_enter func270,ntmps270
 go_wp2_with fail
 go_returns
 exact chk_ret hC.out rfl hal
section
variable {W:World} {g8 g9:Nat} {T8 T9:TypeId} {a0 a1 a2 b0 b1 b2 b3:Value}
theorem set34 (h8:Box W g8 T8 [a0,a1,a2]) (h9:Box W g9 T9 [b0,b1,b2,b3]) (hne:g8≠g9) (x0 x1 x2 z0 z1 z2 z3:Value) :
 Box (((((((W.setCell ⟨g8,0,none⟩ x0).setCell ⟨g8,1,none⟩ x1).setCell ⟨g8,2,none⟩ x2).setCell ⟨g9,0,none⟩ z0).setCell ⟨g9,1,none⟩ z1).setCell ⟨g9,2,none⟩ z2).setCell ⟨g9,3,none⟩ z3) g8 T8 [x0,x1,x2]/\Box (((((((W.setCell ⟨g8,0,none⟩ x0).setCell ⟨g8,1,none⟩ x1).setCell ⟨g8,2,none⟩ x2).setCell ⟨g9,0,none⟩ z0).setCell ⟨g9,1,none⟩ z1).setCell ⟨g9,2,none⟩ z2).setCell ⟨g9,3,none⟩ z3) g9 T9 [z0,z1,z2,z3]/\(∀w:World,Below w.heap.size w W->w.heap.size<=g8->w.heap.size<=g9->Below w.heap.size w (((((((W.setCell ⟨g8,0,none⟩ x0).setCell ⟨g8,1,none⟩ x1).setCell ⟨g8,2,none⟩ x2).setCell ⟨g9,0,none⟩ z0).setCell ⟨g9,1,none⟩ z1).setCell ⟨g9,2,none⟩ z2).setCell ⟨g9,3,none⟩ z3)):=by
 refine⟨?_,?_,fun w hb h1 h2=>?_⟩
 ·have y:=((h8.set 0 x0).set 1 x1).set 2 x2
  simp only[xsz,xss] at y;exact (((y.other hne).other hne).other hne).other hne
 ·have y:=((((((h9.other (G:=g8) (j:=0) (v:=x0) hne.symm).other (j:=1) (v:=x1) hne.symm).other (j:=2) (v:=x2) hne.symm).set 0 z0).set 1 z1).set 2 z2).set 3 z3
  simpa only [xsz,xss] using y
 exact ((((((hb.setCell (p:=⟨g8,0,none⟩) h1 _).setCell (p:=⟨g8,1,none⟩) h1 _).setCell (p:=⟨g8,2,none⟩) h1 _).setCell (p:=⟨g9,0,none⟩) h2 _).setCell (p:=⟨g9,1,none⟩) h2 _).setCell (p:=⟨g9,2,none⟩) h2 _).setCell (p:=⟨g9,3,none⟩) h2 _
theorem box_off3 (h9:Box W g9 T9 [b0,b1,b2,b3]) (hne:g8≠g9) (x0 x1 x2:Value):Box (((W.setCell ⟨g8,0,none⟩ x0).setCell ⟨g8,1,none⟩ x1).setCell ⟨g8,2,none⟩ x2) g9 T9 [b0,b1,b2,b3]:=((h9.other hne.symm).other hne.symm).other hne.symm
theorem sees34 (h8:Box W g8 T8 [a0,a1,a2]) (h9:Box W g9 T9 [b0,b1,b2,b3]) (n8:NoByte [a0,a1,a2]) (n9:NoByte [b0,b1,b2,b3]) (hne:g8≠g9) (x0 x1 x2 z0 z1 z2 z3:Value) {u:Value} {l:Bs} (h:SeesB W W.heap.size u l):SeesB (((((((W.setCell ⟨g8,0,none⟩ x0).setCell ⟨g8,1,none⟩ x1).setCell ⟨g8,2,none⟩ x2).setCell ⟨g9,0,none⟩ z0).setCell ⟨g9,1,none⟩ z1).setCell ⟨g9,2,none⟩ z2).setCell ⟨g9,3,none⟩ z3) (((((((W.setCell ⟨g8,0,none⟩ x0).setCell ⟨g8,1,none⟩ x1).setCell ⟨g8,2,none⟩ x2).setCell ⟨g9,0,none⟩ z0).setCell ⟨g9,1,none⟩ z1).setCell ⟨g9,2,none⟩ z2).setCell ⟨g9,3,none⟩ z3).heap.size u l:=by
 have y9:Box (((W.setCell ⟨g8,0,none⟩ x0).setCell ⟨g8,1,none⟩ x1).setCell ⟨g8,2,none⟩ x2) g9 T9 [b0,b1,b2,b3]:=((h9.other hne.symm).other hne.symm).other hne.symm;have k8:=h.over nlr h8 n8 (ggo (ggo (setCell_grown W g8 0 x0) (setCell_grown _ g8 1 x1)) (setCell_grown _ g8 2 x2));have k9:=k8.over (by simp[World.setCell]) y9 n9 (ggo (ggo (ggo (setCell_grown _ g9 0 z0) (setCell_grown _ g9 1 z1)) (setCell_grown _ g9 2 z2)) (setCell_grown _ g9 3 z3));exact k9.more (by simp[World.setCell])
theorem noBL3' {a b c:Value} (ha:NoB a) (hb:NoB b) (hc:NoB c):NoByte [a,b,c]:=by
 intro x hx n e;simp only[List.mem_cons,List.not_mem_nil,or_false] at hx;rcases hx with rfl|rfl|rfl
 ·exact ha n e
 ·exact hb n e
 exact hc n e
end
def grantR (sd:Bs) (h n:Int) (p:Bs) (f t:Int):(Bs × Int × Int) × (Bs × Int × Int × Bs) × Int:=
 if validI sd h n=true then
  (if p.length=32 then
   (if vS f t=true then
    (if (signAll sd h n (tGrant++p++spanB f t)).2.2.2.2=0 then
     (((signAll sd h n (tGrant++p++spanB f t)).1,(signAll sd h n (tGrant++p++spanB f t)).2.1,(signAll sd h n (tGrant++p++spanB f t)).2.2.1),(p,f,t,(signAll sd h n (tGrant++p++spanB f t)).2.2.2.1),0)
    else (([],0,0),([],0,0,[]),(signAll sd h n (tGrant++p++spanB f t)).2.2.2.2))
   else (([],0,0),([],0,0,[]),3))
  else (([],0,0),([],0,0,[]),5))
 else (([],0,0),([],0,0,[]),3)
def GrantP (r:(Bs × Int × Int) × (Bs × Int × Int × Bs) × Int) (w:World) (e:Ending) (w':World):Prop:=
 ∃v1 v2 v3,e=.returned (.tuple #[.agg #[v1,.int .i64 r.1.2.1,.int .i64 r.1.2.2],.agg #[v2,.int .i64 r.2.1.2.1,.int .i64 r.2.1.2.2.1,v3],.int .i64 r.2.2])/\SeesB w' w'.heap.size v1 r.1.1/\SeesB w' w'.heap.size v2 r.2.1.1/\SeesB w' w'.heap.size v3 r.2.1.2.2.2/\Below w.heap.size w w'
theorem grant_bad {r:(Bs × Int × Int) × (Bs × Int × Int × Bs) × Int} {c:Int} (h:r=(([],0,0),([],0,0,[]),c)) {w w':World} (hb:Below w.heap.size w w'):GrantP r w (.returned (.tuple #[.agg #[.slice none 0 0,.int .i64 0,.int .i64 0],.agg #[.slice none 0 0,.int .i64 0,.int .i64 0,.slice none 0 0],.int .i64 c])) w':=by
 subst h;exact⟨_,_,_,rfl,SeesB.nil _ _,SeesB.nil _ _,SeesB.nil _ _,hb⟩
theorem box3_cells {W:World} {g:Nat} {T:TypeId} {a b c:Value} (h:Box W g T [a,b,c]):W.cell? ⟨g,0,none⟩=some a/\W.cell? ⟨g,1,none⟩=some b/\W.cell? ⟨g,2,none⟩=some c/\W.frozen? ⟨g,0,none⟩=false/\W.frozen? ⟨g,1,none⟩=false/\W.frozen? ⟨g,2,none⟩=false:=⟨h.cell 0,h.cell 1,h.cell 2,h.frozen 0,h.frozen 1,h.frozen 2⟩
theorem box4_cells {W:World} {g:Nat} {T:TypeId} {a b c d:Value} (h:Box W g T [a,b,c,d]):W.cell? ⟨g,0,none⟩=some a/\W.cell? ⟨g,1,none⟩=some b/\W.cell? ⟨g,2,none⟩=some c/\W.cell? ⟨g,3,none⟩=some d/\W.frozen? ⟨g,0,none⟩=false/\W.frozen? ⟨g,1,none⟩=false/\W.frozen? ⟨g,2,none⟩=false/\W.frozen? ⟨g,3,none⟩=false:=⟨h.cell 0,h.cell 1,h.cell 2,h.cell 3,h.frozen 0,h.frozen 1,h.frozen 2,h.frozen 3⟩
theorem below_set3 {w W:World} {g:Nat} (h:Below w.heap.size w W) (hg:w.heap.size<=g) (x y z:Value):Below w.heap.size w (((W.setCell ⟨g,0,none⟩ x).setCell ⟨g,1,none⟩ y).setCell ⟨g,2,none⟩ z):=
 ((h.setCell (p:=⟨g,0,none⟩) hg _).setCell (p:=⟨g,1,none⟩) hg _).setCell (p:=⟨g,2,none⟩) hg _
def SgnR (w8:World) (rs:Bs) (rh rn:Int) (rg:Bs) (rc:Int) (v12 v13 v14:Value) (W:World):Prop:=
 ∃g A1 k1 A2 k2,v12=.pointer (some ⟨g,0,none⟩)/\v13=.slice A2 rg.length k2/\v14=.int .i64 rc/\Box W g 27 [.slice A1 rs.length k1,.int .i64 rh,.int .i64 rn]/\SeesB W W.heap.size (.slice A1 rs.length k1) rs/\SeesB W W.heap.size (.slice A2 rg.length k2) rg/\w8.heap.size<=g/\Below w8.heap.size w8 W
theorem sgn_new (w8 w10:World) (rs:Bs) (rh rn:Int) (rg:Bs) (rc:Int) (A1:Option Addr) (k1:Nat) (A2:Option Addr) (k2:Nat) (t1:SeesB w10 w10.heap.size (.slice A1 rs.length k1) rs) (t2:SeesB w10 w10.heap.size (.slice A2 rg.length k2) rg) (hb:Below w8.heap.size w8 w10) :
 SgnR w8 rs rh rn rg rc (.pointer (some ⟨w10.heap.size,0,none⟩)) (.slice A2 rg.length k2) (.int .i64 rc) (w10.alloc (.cells #[.slice A1 rs.length k1,.int .i64 rh,.int .i64 rn] 27)):=
 ⟨_,A1,k1,A2,k2,rfl,rfl,rfl,Box.new w10 27 [.slice A1 rs.length k1,.int .i64 rh,.int .i64 rn],seesB_of t1 nlr (balloc w10 _),seesB_of t2 nlr (balloc w10 _),hb.size,bgo hb (balloc _ _)⟩
theorem sgn_set (w8 w10:World) (rs:Bs) (rh rn:Int) (rg:Bs) (rc:Int) (A1:Option Addr) (k1:Nat) (A2:Option Addr) (k2 g:Nat) (bz:Box w10 g 27 [.slice none 0 0,.int .i64 0,.int .i64 0]) (t1:SeesB w10 w10.heap.size (.slice A1 rs.length k1) rs) (t2:SeesB w10 w10.heap.size (.slice A2 rg.length k2) rg) (hg:w8.heap.size<=g) (hb:Below w8.heap.size w8 w10) :
 SgnR w8 rs rh rn rg rc (.pointer (some ⟨g,0,none⟩)) (.slice A2 rg.length k2) (.int .i64 rc) (((w10.setCell ⟨g,0,none⟩ (.slice A1 rs.length k1)).setCell ⟨g,1,none⟩ (.int .i64 rh)).setCell ⟨g,2,none⟩ (.int .i64 rn)):=by
 have y:=((bz.set 0 (.slice A1 rs.length k1)).set 1 (.int .i64 rh)).set 2 (.int .i64 rn);simp only[xsz,xss] at y;have hgr:=ggo (ggo (setCell_grown w10 g 0 (.slice A1 rs.length k1)) (setCell_grown _ g 1 (.int .i64 rh))) (setCell_grown _ g 2 (.int .i64 rn));have hz:(((w10.setCell ⟨g,0,none⟩ (.slice A1 rs.length k1)).setCell ⟨g,1,none⟩ (.int .i64 rh)).setCell ⟨g,2,none⟩ (.int .i64 rn)).heap.size=w10.heap.size:=by simp[World.setCell]
 exact⟨g,A1,k1,A2,k2,rfl,rfl,rfl,y,by rw[hz];exact t1.over nlr bz (noBL3' (NoB.s _ _ _) (NoB.i _) (NoB.i _)) hgr,by rw[hz];exact t2.over nlr bz (noBL3' (NoB.s _ _ _) (NoB.i _) (NoB.i _)) hgr,hg,below_set3 hb hg _ _ _⟩
theorem rgrant_ok {r:(Bs × Int × Int) × (Bs × Int × Int × Bs) × Int} {rs p rg:Bs} {rh rn f t:Int} (h:r=((rs,rh,rn),(p,f,t,rg),0)) {w W:World} {v1 v2 v3:Value} (t1:SeesB W W.heap.size v1 rs) (t2:SeesB W W.heap.size v2 p) (t3:SeesB W W.heap.size v3 rg) (hb:Below w.heap.size w W):GrantP r w (.returned (.tuple #[.agg #[v1,.int .i64 rh,.int .i64 rn],.agg #[v2,.int .i64 f,.int .i64 t,v3],.int .i64 0])) W:=by
 subst h;exact⟨_,_,_,rfl,t1,t2,t3,hb⟩
theorem rgrant_any (B:Nat) (u u2:Value) (sd p:Bs) (h n f t:Int) (w:World) (hu:SeesB w B u sd) (hu2:SeesB w B u2 p) (hB:B<=w.heap.size) (hp:p.length<=65000) :
 Calls prog 120 #[.agg #[u,.int .i64 h,.int .i64 n],u2,.int .i64 f,.int .i64 t] w (GrantP (grantR sd h n p f t) w):=by
 obtain⟨As,cs,rfl,-,-⟩:=hu.mk_;obtain⟨Ap,cp,rfl,-,-⟩:=hu2.mk_;have b1:=balloc w (.cells #[.slice As sd.length cs,.int .i64 h,.int .i64 n] 27);have b2:=bgo b1 (balloc _ (.cells #[.slice none 0 0,.int .i64 0,.int .i64 0] 27));have b3:=bgo b2 (balloc _ (.cells #[.slice none 0 0,.int .i64 0,.int .i64 0,.slice none 0 0] 94));have x4:=((Box.new w 27 [.slice As sd.length cs,.int .i64 h,.int .i64 n]).below (balloc _ (.cells #[.slice none 0 0,.int .i64 0,.int .i64 0] 27))).below (balloc _ (.cells #[.slice none 0 0,.int .i64 0,.int .i64 0,.slice none 0 0] 94));have h8:=(Box.new (w.alloc (.cells #[.slice As sd.length cs,.int .i64 h,.int .i64 n] 27)) 27 [.slice none 0 0,.int .i64 0,.int .i64 0]).below (balloc _ (.cells #[.slice none 0 0,.int .i64 0,.int .i64 0,.slice none 0 0] 94));have h9:=Box.new ((w.alloc (.cells #[.slice As sd.length cs,.int .i64 h,.int .i64 n] 27)).alloc (.cells #[.slice none 0 0,.int .i64 0,.int .i64 0] 27)) 94 [.slice none 0 0,.int .i64 0,.int .i64 0,.slice none 0 0];rw[xsa] at h8;rw[xsa,xsa] at h9;have ss5:=seesB_of hu hB b3;have sc5:=seesB_of hu2 hB b3;have hg8:w.heap.size<=w.heap.size+1:=by omega
 have hg9:w.heap.size<=w.heap.size+1+1:=by omega
 have hne:w.heap.size+1≠w.heap.size+1+1:=by omega
 replace hg8:=lhd hg8;replace hg9:=lhd hg9;replace hne:=lhd hne;clear hu hu2 b1 b2
 go_enter func120,ntmps120
 go_upto_region 1 with (fail)
 change Box (((w.alloc (.cells #[.slice As sd.length cs,.int .i64 h,.int .i64 n] 27)).alloc (.cells #[.slice none 0 0,.int .i64 0,.int .i64 0] 27)).alloc (.cells #[.slice none 0 0,.int .i64 0,.int .i64 0,.slice none 0 0] 94)) _ _ _ at x4 h8 h9;generalize ((w.alloc (.cells #[.slice As sd.length cs,.int .i64 h,.int .i64 n] 27)).alloc (.cells #[.slice none 0 0,.int .i64 0,.int .i64 0] 27)).alloc (.cells #[.slice none 0 0,.int .i64 0,.int .i64 0,.slice none 0 0] 94)=W5 at *;have hbw:=lhd b3;clear b3;generalize hG9:w.heap.size+1+1=g9 at *;generalize hG8:w.heap.size+1=g8 at *;generalize hG4:w.heap.size=g4 at x4 ⊢;replace hG9:=lhd hG9;replace hG8:=lhd hG8;replace hG4:=lhd hG4;have hva:=lhd (rsvalid_any _ (.slice As sd.length cs) sd h n W5 ss5);have c0:=x4.cell 0;have c1:=x4.cell 1;have c2:=x4.cell 2;simp only[xqz,xqs] at c0 c1 c2;cases hV:validI sd h n with
 | false=>
   rw[hV] at hva;have hr:Hid (grantR sd h n p f t=(([],0,0),([],0,0,[]),3)):=by show _=_;rw[grantR,hV];rfl
   replace hV:=lhd hV;clear ss5 sc5;replace h8:=lhd h8;replace h9:=lhd h9
   go_wp2_with fail
   refine hva.out.mono ?_;rintro e w6 ⟨rfl,hb6⟩;replace h8:=h8.out.below hb6;replace h9:=h9.out.below hb6;replace hbw:=lhd (bgo hbw.out hb6);clear c0 c1 c2 x4 hva;dsimp only;have y0:=h8.cell 0;have y1:=h8.cell 1;have y2:=h8.cell 2;have y3:=(box_off3 h9 hne.out (.slice none 0 0) (.int .i64 0) (.int .i64 0)).cell 0;have y4:=(box_off3 h9 hne.out (.slice none 0 0) (.int .i64 0) (.int .i64 0)).cell 1;have y5:=(box_off3 h9 hne.out (.slice none 0 0) (.int .i64 0) (.int .i64 0)).cell 2;have y6:=(box_off3 h9 hne.out (.slice none 0 0) (.int .i64 0) (.int .i64 0)).cell 3;simp only[xqz,xqs] at y0 y1 y2 y3 y4 y5 y6;have f0:=h8.frozen 0;have f1:=h8.frozen 1;have f2:=h8.frozen 2;have f3:=(box_off3 h9 hne.out (.slice none 0 0) (.int .i64 0) (.int .i64 0)).frozen 0;have f4:=(box_off3 h9 hne.out (.slice none 0 0) (.int .i64 0) (.int .i64 0)).frozen 1;have f5:=(box_off3 h9 hne.out (.slice none 0 0) (.int .i64 0) (.int .i64 0)).frozen 2;have f6:=(box_off3 h9 hne.out (.slice none 0 0) (.int .i64 0) (.int .i64 0)).frozen 3
   go_wp2_with fail
   obtain⟨k8,k9,kb⟩:=set34 h8 h9 (hne.out) (.slice none 0 0) (.int .i64 0) (.int .i64 0) (.slice none 0 0) (.int .i64 0) (.int .i64 0) (.slice none 0 0);replace kb:=lhd (kb w hbw.out hg8.out hg9.out);clear y0 y1 y2 y3 y4 y5 y6 f0 f1 f2 f3 f4 f5 f6 h8 h9;generalize ((((((w6.setCell ⟨g8,0,none⟩ (.slice none 0 0)).setCell ⟨g8,1,none⟩ (.int .i64 0)).setCell ⟨g8,2,none⟩ (.int .i64 0)).setCell ⟨g9,0,none⟩ (.slice none 0 0)).setCell ⟨g9,1,none⟩ (.int .i64 0)).setCell ⟨g9,2,none⟩ (.int .i64 0)).setCell ⟨g9,3,none⟩ (.slice none 0 0)=W9 at *;have z0:W9.cell? ⟨g8,0,none⟩=some (.slice none 0 0):=k8.cell 0;have z1:W9.cell? ⟨g8,1,none⟩=some (.int .i64 0):=k8.cell 1;have z2:W9.cell? ⟨g8,2,none⟩=some (.int .i64 0):=k8.cell 2;have z3:W9.cell? ⟨g9,0,none⟩=some (.slice none 0 0):=k9.cell 0;have z4:W9.cell? ⟨g9,1,none⟩=some (.int .i64 0):=k9.cell 1;have z5:W9.cell? ⟨g9,2,none⟩=some (.int .i64 0):=k9.cell 2;have z6:W9.cell? ⟨g9,3,none⟩=some (.slice none 0 0):=k9.cell 3;refine bodyPost_ret (v:=.tuple #[.agg #[.slice none 0 0,.int .i64 0,.int .i64 0],.agg #[.slice none 0 0,.int .i64 0,.int .i64 0,.slice none 0 0],.int .i64 3]) (by simp[results,results120,go_sem,z0,z1,z2,z3,z4,z5,z6]) rfl ?_;exact grant_bad hr.out kb.out
 | true=>
   rw[hV] at hva;replace h8:=lhd h8;replace h9:=lhd h9;replace ss5:=lhd ss5;replace sc5:=lhd sc5
   go_wp2_with fail
   refine hva.out.mono ?_;rintro e w6 ⟨rfl,hb6⟩;replace h8:=lhd (h8.out.below hb6);replace h9:=lhd (h9.out.below hb6);replace x4:=x4.below hb6;replace ss5:=lhd (seesB_of ss5.out nlr hb6);replace sc5:=lhd (seesB_of sc5.out nlr hb6);replace hbw:=lhd (bgo hbw.out hb6);clear c0 c1 c2 hva hb6;dsimp only
   by_cases hp32:p.length=32
   ·have ip:((p.length:Int) != 32)=false:=by simp;omega
    replace hp32:=lhd hp32;have hvl:=lhd (fun W=>rvalid_any f t W)
    go_wp2_with fail
    refine (hvl.out _).mono ?_;rintro e w8 ⟨rfl,hb68⟩;replace h8:=lhd (h8.out.below hb68);replace h9:=lhd (h9.out.below hb68);replace x4:=x4.below hb68;replace ss5:=lhd (seesB_of ss5.out nlr hb68);replace sc5:=lhd (seesB_of sc5.out nlr hb68);replace hbw:=lhd (bgo hbw.out hb68);clear hvl hb68;dsimp only;cases hv:vS f t with
    | false=>
      have hr:Hid (grantR sd h n p f t=(([],0,0),([],0,0,[]),3)):=by show _=_;rw[grantR,if_pos hV,if_pos hp32.out,hv];rfl
      replace hV:=lhd hV;replace hv:=lhd hv;replace h8:=h8.out;replace h9:=h9.out;clear x4 ss5 sc5;have y0:=h8.cell 0;have y1:=h8.cell 1;have y2:=h8.cell 2;have y3:=(box_off3 h9 hne.out (.slice none 0 0) (.int .i64 0) (.int .i64 0)).cell 0;have y4:=(box_off3 h9 hne.out (.slice none 0 0) (.int .i64 0) (.int .i64 0)).cell 1;have y5:=(box_off3 h9 hne.out (.slice none 0 0) (.int .i64 0) (.int .i64 0)).cell 2;have y6:=(box_off3 h9 hne.out (.slice none 0 0) (.int .i64 0) (.int .i64 0)).cell 3;simp only[xqz,xqs] at y0 y1 y2 y3 y4 y5 y6;have f0:=h8.frozen 0;have f1:=h8.frozen 1;have f2:=h8.frozen 2;have f3:=(box_off3 h9 hne.out (.slice none 0 0) (.int .i64 0) (.int .i64 0)).frozen 0;have f4:=(box_off3 h9 hne.out (.slice none 0 0) (.int .i64 0) (.int .i64 0)).frozen 1;have f5:=(box_off3 h9 hne.out (.slice none 0 0) (.int .i64 0) (.int .i64 0)).frozen 2;have f6:=(box_off3 h9 hne.out (.slice none 0 0) (.int .i64 0) (.int .i64 0)).frozen 3
      go_wp2_with fail
      obtain⟨k8,k9,kb⟩:=set34 h8 h9 (hne.out) (.slice none 0 0) (.int .i64 0) (.int .i64 0) (.slice none 0 0) (.int .i64 0) (.int .i64 0) (.slice none 0 0);replace kb:=lhd (kb w hbw.out hg8.out hg9.out);clear y0 y1 y2 y3 y4 y5 y6 f0 f1 f2 f3 f4 f5 f6 h8 h9;generalize ((((((w8.setCell ⟨g8,0,none⟩ (.slice none 0 0)).setCell ⟨g8,1,none⟩ (.int .i64 0)).setCell ⟨g8,2,none⟩ (.int .i64 0)).setCell ⟨g9,0,none⟩ (.slice none 0 0)).setCell ⟨g9,1,none⟩ (.int .i64 0)).setCell ⟨g9,2,none⟩ (.int .i64 0)).setCell ⟨g9,3,none⟩ (.slice none 0 0)=W9 at *;have z0:W9.cell? ⟨g8,0,none⟩=some (.slice none 0 0):=k8.cell 0;have z1:W9.cell? ⟨g8,1,none⟩=some (.int .i64 0):=k8.cell 1;have z2:W9.cell? ⟨g8,2,none⟩=some (.int .i64 0):=k8.cell 2;have z3:W9.cell? ⟨g9,0,none⟩=some (.slice none 0 0):=k9.cell 0;have z4:W9.cell? ⟨g9,1,none⟩=some (.int .i64 0):=k9.cell 1;have z5:W9.cell? ⟨g9,2,none⟩=some (.int .i64 0):=k9.cell 2;have z6:W9.cell? ⟨g9,3,none⟩=some (.slice none 0 0):=k9.cell 3;refine bodyPost_ret (v:=.tuple #[.agg #[.slice none 0 0,.int .i64 0,.int .i64 0],.agg #[.slice none 0 0,.int .i64 0,.int .i64 0,.slice none 0 0],.int .i64 3]) (by simp[results,results120,go_sem,z0,z1,z2,z3,z4,z5,z6]) rfl ?_;exact grant_bad hr.out kb.out
    | true=>
      have hr:Hid (grantR sd h n p f t=if (signAll sd h n (tGrant++p++spanB f t)).2.2.2.2=0 then
       (((signAll sd h n (tGrant++p++spanB f t)).1,(signAll sd h n (tGrant++p++spanB f t)).2.1,(signAll sd h n (tGrant++p++spanB f t)).2.2.1),(p,f,t,(signAll sd h n (tGrant++p++spanB f t)).2.2.2.1),0)
       else (([],0,0),([],0,0,[]),(signAll sd h n (tGrant++p++spanB f t)).2.2.2.2)):=by show _=_;rw[grantR,if_pos hV,if_pos hp32.out,if_pos hv]
      have hsg:=fun (W:World) (hW:Below w8.heap.size w8 W)=>rtext_any W.heap.size (.slice Ap p.length cp) p f t W (seesB_of sc5.out nlr hW) nlr (by omega)
      have hm:(tGrant++p++spanB f t).length<=65535:=by rw[xla,xla];have:=hp32.out;simp[tGrant,spanB,putB_len];omega
      have hsn:=fun (W:World) (v:Value) (hW:Below w8.heap.size w8 W) (hv:SeesB W W.heap.size v (tGrant++p++spanB f t))=>rsign_all W.heap.size (.slice As sd.length cs) v sd (tGrant++p++spanB f t) h n W (seesB_of ss5.out nlr hW) hv nlr hm
      generalize tGrant++p++spanB f t=M at *;generalize hsa:signAll sd h n M=r at *;replace hsa:=lhd hsa;replace hm:=lhd hm;obtain⟨rs,rh,rn,rg,rc⟩:=r;dsimp only at hr;unfold SignPost at hsn;dsimp only at hsn;have hs1:=lhd (hsg w8.drew (bdrew w8));have hs2:=lhd (hsg (w8.alloc (.cells #[.slice none 0 0,.int .i64 0,.int .i64 0] 27)).drew (bgo (balloc w8 _) (bdrew _)));clear hsg;replace hsn:=lhd hsn;have K:Hid (∀W:World,Below w8.heap.size w8 W->W.cell? ⟨g4,0,none⟩=some (.slice As sd.length cs)/\W.cell? ⟨g4,1,none⟩=some (.int .i64 h)/\W.cell? ⟨g4,2,none⟩=some (.int .i64 n)):=fun W hW=>⟨(x4.below hW).cell 0,(x4.below hW).cell 1,(x4.below hW).cell 2⟩
      obtain⟨c0,c1,c2⟩:=K.out w8 (Below.refl _ _);replace hV:=lhd hV;replace hv:=lhd hv;clear ip
      go_wp2_with fail
      go_cut [11,12,13] (fun v12 v13 v14 W=>SgnR w8 rs rh rn rg rc v12 v13 v14 W)
      case first=>
       go_region_held3 (fun W':World=>W'.cell? ⟨g4,0,none⟩=some (.slice As sd.length cs)/\W'.cell? ⟨g4,1,none⟩=some (.int .i64 h)/\W'.cell? ⟨g4,2,none⟩=some (.int .i64 n))
        (first | (with_reducible exact K.out _ hb10) | (with_reducible exact K.out _ (below_set3 hb10 hz9 _ _ _)) | (with_reducible exact K.out _ hb9) | exact K.out _ (by (repeat (first | exact Below.refl _ _ | (refine bgo ?_ (balloc _ _)) | (refine bgo ?_ (bdrew _)) | (refine bgo ?_ (by assumption))))) | (go_keep;done))
        (first
         | (go_at_call 114;(with_reducible refine (hsn.out (w9.alloc (.cells #[.slice none 0 0,.int .i64 0,.int .i64 0] 27)) _ (bgo hb9 (balloc w9 _)) (seesB_of s9 nlr (balloc w9 _))).mono ?_);rintro e w10 ⟨v1,v2,rfl,t1,t2,hb10⟩
            obtain⟨A1,k1,rfl,-,-⟩:=t1.mk_;obtain⟨A2,k2,rfl,-,-⟩:=t2.mk_;have bz:=(Box.new w9 27 [.slice none 0 0,.int .i64 0,.int .i64 0]).below hb10;replace hb10:=bgo (bgo hb9 (balloc w9 _)) hb10;have hz9:=hb9.size;obtain⟨e0,e1,e2,j0,j1,j2⟩:=box3_cells bz)
         | (go_at_call 114;have _q:=bz9;(with_reducible refine (hsn.out w9 _ hb9 s9).mono ?_);rintro e w10 ⟨v1,v2,rfl,t1,t2,hb10⟩
            obtain⟨A1,k1,rfl,-,-⟩:=t1.mk_;obtain⟨A2,k2,rfl,-,-⟩:=t2.mk_;have bz:=bz9.below hb10;replace hb10:=bgo hb9 hb10;have hz9:=Nat.le_refl w8.heap.size;obtain⟨e0,e1,e2,j0,j1,j2⟩:=box3_cells bz)
         | (go_at_call 114;(with_reducible refine (hsn.out w9 _ hb9 s9).mono ?_);rintro e w10 ⟨v1,v2,rfl,t1,t2,hb10⟩
            obtain⟨A1,k1,rfl,-,-⟩:=t1.mk_;obtain⟨A2,k2,rfl,-,-⟩:=t2.mk_;replace hb10:=bgo hb9 hb10)
         | (go_at_call 192;(with_reducible refine hs1.out.mono ?_);rintro e w9 ⟨v9,rfl,f9,hb9⟩
            replace hb9:=bgo (bdrew w8) hb9;have s9:=f9.sees;obtain⟨A9,k9,rfl,-,-⟩:=f9.sees.mk_)
         | (go_at_call 192;(with_reducible refine hs2.out.mono ?_);rintro e w9 ⟨v9,rfl,f9,hb9⟩
            have bz9:=((Box.new w8 27 [.slice none 0 0,.int .i64 0,.int .i64 0]).below (bdrew _)).below hb9;replace hb9:=bgo (bgo (balloc w8 _) (bdrew _)) hb9;have s9:=f9.sees;obtain⟨A9,k9,rfl,-,-⟩:=f9.sees.mk_))
       all_goals
        go_wp2_with fail
        go_meet
        first
         | (with_reducible exact sgn_new w8 w10 _ _ _ _ _ _ _ _ _ t1 t2 hb10)
         | (with_reducible exact sgn_set w8 w10 _ _ _ _ _ _ _ _ _ _ bz t1 t2 hz9 hb10)
      case rest=>
       obtain⟨g12,A1,k1,A2,k2,rfl,rfl,rfl,b12,t1,t2,hg12,hb12⟩:=hcut;obtain⟨w10,rfl⟩:∃w10:World,w10=wc:=⟨_,rfl⟩
       have q8:g8<w8.heap.size:=h8.out.lt;have q9:g9<w8.heap.size:=h9.out.lt;replace h8:=h8.out.below hb12;replace h9:=h9.out.below hb12;replace sc5:=seesB_of sc5.out nlr hb12;replace hbw:=lhd (bgo hbw.out hb12);have n4:g12≠g8:=by omega
       have n5:g12≠g9:=by omega
       replace n4:=lhd n4;replace n5:=lhd n5;clear c0 c1 c2 K hs1 hs2 hsn x4 ss5 q8 q9
       by_cases hE:rc=0
       ·subst hE
        have hr2:Hid (grantR sd h n p f t=((rs,rh,rn),(p,f,t,rg),0)):=by show _=_;rw[hr.out,if_pos rfl]
        have hal:=bgo (balloc w10 (.cells #[.slice Ap p.length cp] 25)) (bdrew _);have hj:Calls prog 85 #[.slice (some ⟨w10.heap.size,0,none⟩) 1 1] (w10.alloc (.cells #[.slice Ap p.length cp] 25)).drew fun e w'=>∃v,e=.returned v/\OwnB w' w10.heap.size v [p].flatten/\Below w10.heap.size w10 w':=
         rjoin_lit (vs:=[.slice Ap p.length cp]) [p] w10 w10.drew w10.heap.size rfl (bdrew w10) ⟨seesB_of sc5 nlr (bdrew w10),trivial⟩ (by simp) (by simp;omega)
        rw[show [p].flatten=p by simp] at hj;replace hj:=lhd hj;have K:Hid (∀W:World,Below w10.heap.size w10 W->W.cell? ⟨g12,0,none⟩=some (.slice A1 rs.length k1)/\W.cell? ⟨g12,1,none⟩=some (.int .i64 rh)/\W.cell? ⟨g12,2,none⟩=some (.int .i64 rn)):=fun W hW=>⟨(b12.below hW).cell 0,(b12.below hW).cell 1,(b12.below hW).cell 2⟩
        obtain⟨c0,c1,c2⟩:=K.out w10 (Below.refl _ _);replace h8:=lhd h8;replace h9:=lhd h9;replace b12:=lhd b12;replace t1:=lhd t1;replace t2:=lhd t2;clear sc5 hr hal
        go_wp2_with fail
        go_region_held3 (fun W':World=>W'.cell? ⟨g12,0,none⟩=some (.slice A1 rs.length k1)/\W'.cell? ⟨g12,1,none⟩=some (.int .i64 rh)/\W'.cell? ⟨g12,2,none⟩=some (.int .i64 rn))
         (first | (with_reducible exact KAB.out) | (with_reducible exact KA.out) | (with_reducible exact K0.out) | exact K.out _ (by (repeat (first | exact Below.refl _ _ | (refine bgo ?_ (balloc _ _)) | (refine bgo ?_ (bdrew _)) | (refine bgo ?_ (by assumption))))))
         (first
          | (go_at_call 85;(with_reducible refine hj.out.mono ?_);rintro e w11 ⟨vc,rfl,fc,hb11⟩
             have tc:=fc.sees;obtain⟨Ac,cc,rfl,-,-⟩:=fc.sees.mk_;have K0:=lhd (K.out w11 hb11);have i8:=lhd (h8.out.below hb11);have i9:=lhd (h9.out.below hb11);have i12:=lhd (b12.out.below hb11);have t1':=seesB_of t1.out nlr hb11;have t2':=seesB_of t2.out nlr hb11;obtain⟨p8,p9,pb⟩:=set34 i8.out i9.out hne.out (.slice A1 rs.length k1) (.int .i64 rh) (.int .i64 rn) (.slice Ac p.length cc) (.int .i64 f) (.int .i64 t) (.slice A2 rg.length k2);have n8:=noBL3' (NoB.s none 0 0) (NoB.i 0) (NoB.i 0);have n9:=noBL4 (NoB.s none 0 0) (NoB.i 0) (NoB.i 0) (NoB.s none 0 0);have pt1:=lhd (sees34 i8.out i9.out n8 n9 hne.out (.slice A1 rs.length k1) (.int .i64 rh) (.int .i64 rn) (.slice Ac p.length cc) (.int .i64 f) (.int .i64 t) (.slice A2 rg.length k2) t1');have pt2:=lhd (sees34 i8.out i9.out n8 n9 hne.out (.slice A1 rs.length k1) (.int .i64 rh) (.int .i64 rn) (.slice Ac p.length cc) (.int .i64 f) (.int .i64 t) (.slice A2 rg.length k2) t2');have pt3:=lhd (sees34 i8.out i9.out n8 n9 hne.out (.slice A1 rs.length k1) (.int .i64 rh) (.int .i64 rn) (.slice Ac p.length cc) (.int .i64 f) (.int .i64 t) (.slice A2 rg.length k2) tc);replace pb:=lhd (pb w (bgo hbw.out hb11) hg8.out hg9.out);have a12:Box (((w11.setCell ⟨g8,0,none⟩ (.slice A1 rs.length k1)).setCell ⟨g8,1,none⟩ (.int .i64 rh)).setCell ⟨g8,2,none⟩ (.int .i64 rn)) g12 27 [.slice A1 rs.length k1,.int .i64 rh,.int .i64 rn]:=((i12.out.other n4.out).other n4.out).other n4.out
             have a9:Box (((w11.setCell ⟨g8,0,none⟩ (.slice A1 rs.length k1)).setCell ⟨g8,1,none⟩ (.int .i64 rh)).setCell ⟨g8,2,none⟩ (.int .i64 rn)) g9 94 [.slice none 0 0,.int .i64 0,.int .i64 0,.slice none 0 0]:=box_off3 i9.out hne.out (.slice A1 rs.length k1) (.int .i64 rh) (.int .i64 rn);have ab12:Box (((((((w11.setCell ⟨g8,0,none⟩ (.slice A1 rs.length k1)).setCell ⟨g8,1,none⟩ (.int .i64 rh)).setCell ⟨g8,2,none⟩ (.int .i64 rn)).setCell ⟨g9,0,none⟩ (.slice Ac p.length cc)).setCell ⟨g9,1,none⟩ (.int .i64 f)).setCell ⟨g9,2,none⟩ (.int .i64 t)).setCell ⟨g9,3,none⟩ (.slice A2 rg.length k2)) g12 27 [.slice A1 rs.length k1,.int .i64 rh,.int .i64 rn]:=(((a12.other n5.out).other n5.out).other n5.out).other n5.out;have KA:Hid ((((w11.setCell ⟨g8,0,none⟩ (.slice A1 rs.length k1)).setCell ⟨g8,1,none⟩ (.int .i64 rh)).setCell ⟨g8,2,none⟩ (.int .i64 rn)).cell? ⟨g12,0,none⟩=some (.slice A1 rs.length k1)/\(((w11.setCell ⟨g8,0,none⟩ (.slice A1 rs.length k1)).setCell ⟨g8,1,none⟩ (.int .i64 rh)).setCell ⟨g8,2,none⟩ (.int .i64 rn)).cell? ⟨g12,1,none⟩=some (.int .i64 rh)/\(((w11.setCell ⟨g8,0,none⟩ (.slice A1 rs.length k1)).setCell ⟨g8,1,none⟩ (.int .i64 rh)).setCell ⟨g8,2,none⟩ (.int .i64 rn)).cell? ⟨g12,2,none⟩=some (.int .i64 rn)):=⟨a12.cell 0,a12.cell 1,a12.cell 2⟩
             have KAB:Hid ((((((((w11.setCell ⟨g8,0,none⟩ (.slice A1 rs.length k1)).setCell ⟨g8,1,none⟩ (.int .i64 rh)).setCell ⟨g8,2,none⟩ (.int .i64 rn)).setCell ⟨g9,0,none⟩ (.slice Ac p.length cc)).setCell ⟨g9,1,none⟩ (.int .i64 f)).setCell ⟨g9,2,none⟩ (.int .i64 t)).setCell ⟨g9,3,none⟩ (.slice A2 rg.length k2)).cell? ⟨g12,0,none⟩=some (.slice A1 rs.length k1)/\(((((((w11.setCell ⟨g8,0,none⟩ (.slice A1 rs.length k1)).setCell ⟨g8,1,none⟩ (.int .i64 rh)).setCell ⟨g8,2,none⟩ (.int .i64 rn)).setCell ⟨g9,0,none⟩ (.slice Ac p.length cc)).setCell ⟨g9,1,none⟩ (.int .i64 f)).setCell ⟨g9,2,none⟩ (.int .i64 t)).setCell ⟨g9,3,none⟩ (.slice A2 rg.length k2)).cell? ⟨g12,1,none⟩=some (.int .i64 rh)/\(((((((w11.setCell ⟨g8,0,none⟩ (.slice A1 rs.length k1)).setCell ⟨g8,1,none⟩ (.int .i64 rh)).setCell ⟨g8,2,none⟩ (.int .i64 rn)).setCell ⟨g9,0,none⟩ (.slice Ac p.length cc)).setCell ⟨g9,1,none⟩ (.int .i64 f)).setCell ⟨g9,2,none⟩ (.int .i64 t)).setCell ⟨g9,3,none⟩ (.slice A2 rg.length k2)).cell? ⟨g12,2,none⟩=some (.int .i64 rn)):=⟨ab12.cell 0,ab12.cell 1,ab12.cell 2⟩
             obtain⟨o0,o1,o2,o3,o4,o5⟩:=box3_cells i8.out;obtain⟨s6,s7,s8,s9,s10,s11,s12,s13⟩:=box4_cells a9;replace p8:=lhd p8;replace p9:=lhd p9;clear a12 a9 ab12 n8 n9 t1' t2' tc fc))
        all_goals
         clear K0 KA KAB o0 o1 o2 o3 o4 o5 s6 s7 s8 s9 s10 s11 s12 s13 c0 c1 c2
         go_wp2_with fail
         generalize ((((((w11.setCell ⟨g8,0,none⟩ (.slice A1 rs.length k1)).setCell ⟨g8,1,none⟩ (.int .i64 rh)).setCell ⟨g8,2,none⟩ (.int .i64 rn)).setCell ⟨g9,0,none⟩ (.slice Ac p.length cc)).setCell ⟨g9,1,none⟩ (.int .i64 f)).setCell ⟨g9,2,none⟩ (.int .i64 t)).setCell ⟨g9,3,none⟩ (.slice A2 rg.length k2)=W9 at *;have z0:=p8.out.cell 0;have z1:=p8.out.cell 1;have z2:=p8.out.cell 2;have z3:=p9.out.cell 0;have z4:=p9.out.cell 1;have z5:=p9.out.cell 2;have z6:=p9.out.cell 3;simp only[xqz,xqs] at z0 z1 z2 z3 z4 z5 z6;refine bodyPost_ret (v:=.tuple #[.agg #[.slice A1 rs.length k1,.int .i64 rh,.int .i64 rn],.agg #[.slice Ac p.length cc,.int .i64 f,.int .i64 t,.slice A2 rg.length k2],.int .i64 0]) (by simp[results,results120,go_sem,z0,z1,z2,z3,z4,z5,z6]) rfl ?_;exact rgrant_ok hr2.out pt1.out pt3.out pt2.out pb.out
       have hr2:Hid (grantR sd h n p f t=(([],0,0),([],0,0,[]),rc)):=by show _=_;rw[hr.out,if_neg hE]
       have hEb:(rc == 0)=false:=by rw[beq_eq_false_iff_ne];exact hE
       clear b12 t1 t2 sc5;have y0:=h8.cell 0;have y1:=h8.cell 1;have y2:=h8.cell 2;have y3:=(box_off3 h9 hne.out (.slice none 0 0) (.int .i64 0) (.int .i64 0)).cell 0;have y4:=(box_off3 h9 hne.out (.slice none 0 0) (.int .i64 0) (.int .i64 0)).cell 1;have y5:=(box_off3 h9 hne.out (.slice none 0 0) (.int .i64 0) (.int .i64 0)).cell 2;have y6:=(box_off3 h9 hne.out (.slice none 0 0) (.int .i64 0) (.int .i64 0)).cell 3;simp only[xqz,xqs] at y0 y1 y2 y3 y4 y5 y6;have f0:=h8.frozen 0;have f1:=h8.frozen 1;have f2:=h8.frozen 2;have f3:=(box_off3 h9 hne.out (.slice none 0 0) (.int .i64 0) (.int .i64 0)).frozen 0;have f4:=(box_off3 h9 hne.out (.slice none 0 0) (.int .i64 0) (.int .i64 0)).frozen 1;have f5:=(box_off3 h9 hne.out (.slice none 0 0) (.int .i64 0) (.int .i64 0)).frozen 2;have f6:=(box_off3 h9 hne.out (.slice none 0 0) (.int .i64 0) (.int .i64 0)).frozen 3
       go_wp2_with fail
       obtain⟨k8,k9,kb⟩:=set34 h8 h9 (hne.out) (.slice none 0 0) (.int .i64 0) (.int .i64 0) (.slice none 0 0) (.int .i64 0) (.int .i64 0) (.slice none 0 0);replace kb:=lhd (kb w hbw.out hg8.out hg9.out);clear y0 y1 y2 y3 y4 y5 y6 f0 f1 f2 f3 f4 f5 f6 h8 h9;generalize ((((((w10.setCell ⟨g8,0,none⟩ (.slice none 0 0)).setCell ⟨g8,1,none⟩ (.int .i64 0)).setCell ⟨g8,2,none⟩ (.int .i64 0)).setCell ⟨g9,0,none⟩ (.slice none 0 0)).setCell ⟨g9,1,none⟩ (.int .i64 0)).setCell ⟨g9,2,none⟩ (.int .i64 0)).setCell ⟨g9,3,none⟩ (.slice none 0 0)=W9 at *;have z0:W9.cell? ⟨g8,0,none⟩=some (.slice none 0 0):=k8.cell 0;have z1:W9.cell? ⟨g8,1,none⟩=some (.int .i64 0):=k8.cell 1;have z2:W9.cell? ⟨g8,2,none⟩=some (.int .i64 0):=k8.cell 2;have z3:W9.cell? ⟨g9,0,none⟩=some (.slice none 0 0):=k9.cell 0;have z4:W9.cell? ⟨g9,1,none⟩=some (.int .i64 0):=k9.cell 1;have z5:W9.cell? ⟨g9,2,none⟩=some (.int .i64 0):=k9.cell 2;have z6:W9.cell? ⟨g9,3,none⟩=some (.slice none 0 0):=k9.cell 3;refine bodyPost_ret (v:=.tuple #[.agg #[.slice none 0 0,.int .i64 0,.int .i64 0],.agg #[.slice none 0 0,.int .i64 0,.int .i64 0,.slice none 0 0],.int .i64 rc]) (by simp[results,results120,go_sem,z0,z1,z2,z3,z4,z5,z6]) rfl ?_;exact grant_bad hr2.out kb.out
   have ip:((p.length:Int) != 32)=true:=by simp;omega
   have hr:Hid (grantR sd h n p f t=(([],0,0),([],0,0,[]),5)):=by show _=_;rw[grantR,if_pos hV,if_neg hp32]
   replace hV:=lhd hV;replace hp32:=lhd hp32;replace h8:=h8.out;replace h9:=h9.out;clear x4 ss5 sc5;have y0:=h8.cell 0;have y1:=h8.cell 1;have y2:=h8.cell 2;have y3:=(box_off3 h9 hne.out (.slice none 0 0) (.int .i64 0) (.int .i64 0)).cell 0;have y4:=(box_off3 h9 hne.out (.slice none 0 0) (.int .i64 0) (.int .i64 0)).cell 1;have y5:=(box_off3 h9 hne.out (.slice none 0 0) (.int .i64 0) (.int .i64 0)).cell 2;have y6:=(box_off3 h9 hne.out (.slice none 0 0) (.int .i64 0) (.int .i64 0)).cell 3;simp only[xqz,xqs] at y0 y1 y2 y3 y4 y5 y6;have f0:=h8.frozen 0;have f1:=h8.frozen 1;have f2:=h8.frozen 2;have f3:=(box_off3 h9 hne.out (.slice none 0 0) (.int .i64 0) (.int .i64 0)).frozen 0;have f4:=(box_off3 h9 hne.out (.slice none 0 0) (.int .i64 0) (.int .i64 0)).frozen 1;have f5:=(box_off3 h9 hne.out (.slice none 0 0) (.int .i64 0) (.int .i64 0)).frozen 2;have f6:=(box_off3 h9 hne.out (.slice none 0 0) (.int .i64 0) (.int .i64 0)).frozen 3
   go_wp2_with fail
   obtain⟨k8,k9,kb⟩:=set34 h8 h9 (hne.out) (.slice none 0 0) (.int .i64 0) (.int .i64 0) (.slice none 0 0) (.int .i64 0) (.int .i64 0) (.slice none 0 0);replace kb:=lhd (kb w hbw.out hg8.out hg9.out);clear y0 y1 y2 y3 y4 y5 y6 f0 f1 f2 f3 f4 f5 f6 h8 h9;generalize ((((((w6.setCell ⟨g8,0,none⟩ (.slice none 0 0)).setCell ⟨g8,1,none⟩ (.int .i64 0)).setCell ⟨g8,2,none⟩ (.int .i64 0)).setCell ⟨g9,0,none⟩ (.slice none 0 0)).setCell ⟨g9,1,none⟩ (.int .i64 0)).setCell ⟨g9,2,none⟩ (.int .i64 0)).setCell ⟨g9,3,none⟩ (.slice none 0 0)=W9 at *;have z0:W9.cell? ⟨g8,0,none⟩=some (.slice none 0 0):=k8.cell 0;have z1:W9.cell? ⟨g8,1,none⟩=some (.int .i64 0):=k8.cell 1;have z2:W9.cell? ⟨g8,2,none⟩=some (.int .i64 0):=k8.cell 2;have z3:W9.cell? ⟨g9,0,none⟩=some (.slice none 0 0):=k9.cell 0;have z4:W9.cell? ⟨g9,1,none⟩=some (.int .i64 0):=k9.cell 1;have z5:W9.cell? ⟨g9,2,none⟩=some (.int .i64 0):=k9.cell 2;have z6:W9.cell? ⟨g9,3,none⟩=some (.slice none 0 0):=k9.cell 3;refine bodyPost_ret (v:=.tuple #[.agg #[.slice none 0 0,.int .i64 0,.int .i64 0],.agg #[.slice none 0 0,.int .i64 0,.int .i64 0,.slice none 0 0],.int .i64 5]) (by simp[results,results120,go_sem,z0,z1,z2,z3,z4,z5,z6]) rfl ?_;exact grant_bad hr.out kb.out
theorem rsame_eq (B B':Nat) (u v:Value) (a:Bs) (w:World) (hu:SeesB w B u a) (hv:SeesB w B' v a):Calls prog 26 #[u,v] w fun e w'=>e=.returned (.bool true)/\w'=w:=by
 refine (rsame_any B B' u v a a w hu hv).mono ?_;rintro e w' ⟨rfl,rfl⟩;exact⟨ret_bool (by simp),rfl⟩
theorem kflip_none (u:Value) (a b:Int) (w:World) (hu:SeesB w w.heap.size u []) :
 Calls prog 22 #[u,.int .i64 a,.int .i64 b] w (Gives [] w):=by
 obtain⟨A,c,rfl,-,-⟩:=hu.mk_;have hl3:=seesL_lit w 25 (show SeesAll w w.heap.size [.slice A (List.length ([]:Bs)) c] [[]] from⟨hu,trivial⟩) (by simp[maxLen]);have hj:=rjoin_any _ _ _ _ hl3 nlr (by simp);rw[show ([[]]:List Bs).flatten=[] from rfl] at hj;have hal:=lhd (balloc w (.cells #[.slice A (List.length ([]:Bs)) c] 25));replace hj:=lhd hj;clear hu hl3
 go_enter func22,ntmps22
 go_wp2_with fail
 refine hj.out.mono ?_;rintro e w1 ⟨v1,rfl,f1,hb1⟩;obtain⟨A1,c1,rfl,-,-⟩:=f1.sees.mk_;dsimp only
 go_wp2_with fail
 go_ret
 exact⟨_,rfl,f1.mono hal.out.size,bgo hal.out hb1⟩
theorem kflip_any (u:Value) (l:Bs) (a b:Int) (w:World) (hu:SeesB w w.heap.size u l) (hl:l.length<=1048576) :
 Calls prog 22 #[u,.int .i64 a,.int .i64 b] w fun e w'=>∃l':Bs,l'.length=l.length/\Gives l' w e w':=by
 cases l with
 | nil=>exact (kflip_none u a b w hu).mono fun _ _ h=>⟨[],rfl,h⟩
 | cons x y=>exact (kflip_some _ u (x :: y) a b w hu nlr (by simp) hl).mono fun _ _ h=>⟨_,flipK_len _ _ _,h⟩
theorem box7_cells {W:World} {g:Nat} {T:TypeId} {a b c d e f h:Value} (x:Box W g T [a,b,c,d,e,f,h]):W.cell? ⟨g,0,none⟩=some a/\W.cell? ⟨g,1,none⟩=some b/\W.cell? ⟨g,2,none⟩=some c/\W.cell? ⟨g,3,none⟩=some d/\W.cell? ⟨g,4,none⟩=some e/\W.cell? ⟨g,5,none⟩=some f/\W.cell? ⟨g,6,none⟩=some h:=⟨x.cell 0,x.cell 1,x.cell 2,x.cell 3,x.cell 4,x.cell 5,x.cell 6⟩
theorem box7_soft {W:World} {g:Nat} {T:TypeId} {a b c d e f h:Value} (x:Box W g T [a,b,c,d,e,f,h]):W.frozen? ⟨g,0,none⟩=false/\W.frozen? ⟨g,1,none⟩=false/\W.frozen? ⟨g,2,none⟩=false/\W.frozen? ⟨g,3,none⟩=false/\W.frozen? ⟨g,4,none⟩=false/\W.frozen? ⟨g,5,none⟩=false/\W.frozen? ⟨g,6,none⟩=false:=⟨x.frozen 0,x.frozen 1,x.frozen 2,x.frozen 3,x.frozen 4,x.frozen 5,x.frozen 6⟩
theorem box_set7 {W:World} {g:Nat} {T:TypeId} {a0 a1 a2 a3 a4 a5 a6:Value} (h:Box W g T [a0,a1,a2,a3,a4,a5,a6]) (x0 x1 x2 x3 x4 x5 x6:Value):Box (((((((W.setCell ⟨g,0,none⟩ x0).setCell ⟨g,1,none⟩ x1).setCell ⟨g,2,none⟩ x2).setCell ⟨g,3,none⟩ x3).setCell ⟨g,4,none⟩ x4).setCell ⟨g,5,none⟩ x5).setCell ⟨g,6,none⟩ x6) g T [x0,x1,x2,x3,x4,x5,x6]:=by
 have y:=((((((h.set 0 x0).set 1 x1).set 2 x2).set 3 x3).set 4 x4).set 5 x5).set 6 x6
 simpa only [xsz,xss] using y
theorem below_set7 {w W:World} {g:Nat} (h:Below w.heap.size w W) (hg:w.heap.size<=g) (x0 x1 x2 x3 x4 x5 x6:Value):Below w.heap.size w (((((((W.setCell ⟨g,0,none⟩ x0).setCell ⟨g,1,none⟩ x1).setCell ⟨g,2,none⟩ x2).setCell ⟨g,3,none⟩ x3).setCell ⟨g,4,none⟩ x4).setCell ⟨g,5,none⟩ x5).setCell ⟨g,6,none⟩ x6):=
 ((((((h.setCell (p:=⟨g,0,none⟩) hg _).setCell (p:=⟨g,1,none⟩) hg _).setCell (p:=⟨g,2,none⟩) hg _).setCell (p:=⟨g,3,none⟩) hg _).setCell (p:=⟨g,4,none⟩) hg _).setCell (p:=⟨g,5,none⟩) hg _).setCell (p:=⟨g,6,none⟩) hg _
theorem noZ7:NoByte [.slice none 0 0,.int .i64 0,.int .i64 0,.slice none 0 0,.int .i64 0,.int .i64 0,.slice none 0 0]:=by
 intro x hx n e;simp only[List.mem_cons,List.not_mem_nil,or_false] at hx;rcases hx with rfl|rfl|rfl|rfl|rfl|rfl|rfl<;>cases e
theorem sees_set7 {W:World} {g:Nat} {T:TypeId} {a0 a1 a2 a3 a4 a5 a6 u:Value} {l:Bs} (h:Box W g T [a0,a1,a2,a3,a4,a5,a6]) (n:NoByte [a0,a1,a2,a3,a4,a5,a6]) (x0 x1 x2 x3 x4 x5 x6:Value) (hs:SeesB W W.heap.size u l):SeesB (((((((W.setCell ⟨g,0,none⟩ x0).setCell ⟨g,1,none⟩ x1).setCell ⟨g,2,none⟩ x2).setCell ⟨g,3,none⟩ x3).setCell ⟨g,4,none⟩ x4).setCell ⟨g,5,none⟩ x5).setCell ⟨g,6,none⟩ x6) (((((((W.setCell ⟨g,0,none⟩ x0).setCell ⟨g,1,none⟩ x1).setCell ⟨g,2,none⟩ x2).setCell ⟨g,3,none⟩ x3).setCell ⟨g,4,none⟩ x4).setCell ⟨g,5,none⟩ x5).setCell ⟨g,6,none⟩ x6).heap.size u l:=by
 have hz:(((((((W.setCell ⟨g,0,none⟩ x0).setCell ⟨g,1,none⟩ x1).setCell ⟨g,2,none⟩ x2).setCell ⟨g,3,none⟩ x3).setCell ⟨g,4,none⟩ x4).setCell ⟨g,5,none⟩ x5).setCell ⟨g,6,none⟩ x6).heap.size=W.heap.size:=by simp[World.setCell]
 rw[hz];exact hs.over nlr h n (ggo (ggo (ggo (ggo (ggo (ggo (setCell_grown W g 0 x0) (setCell_grown _ g 1 x1)) (setCell_grown _ g 2 x2)) (setCell_grown _ g 3 x3)) (setCell_grown _ g 4 x4)) (setCell_grown _ g 5 x5)) (setCell_grown _ g 6 x6))
end Go.Proofs.YtjgepckncogdaaaGreat
