/- Contracts of functions, walks, plain facts. Conditions: those of each theorem. -/
import Derived.Test.YtjgepckncogdaaaGreatK19
set_option linter.unusedVariables false
set_option linter.unusedSimpArgs false
set_option maxRecDepth 100000
set_option maxHeartbeats 16000000
namespace Go.Proofs.YtjgepckncogdaaaGreat
open Go Go.RowKit _root_.Go.Proofs.Tryz
attribute [local go_sem ↓] Go.wp_at_zero Go.wp_at_succ
theorem fits_any (B:Nat) (u:Value) (s:Bs) (w:World) (hu:SeesB w B u s) :
 Calls prog 197 #[u] w fun e w'=>e=.returned (.bool (fitsG s))/\w'=w:=by
 obtain⟨A,c,rfl,hc1,hc2⟩:=hu.mk_
 by_cases g0:s.length=0
 ·have hf:Hid (fitsG s=false):=by show _=_;unfold fitsG;simp[g0]
  have i0:¬(0:Int)<(s.length:Int):=by omega
  clear hu
  go_enter func197,ntmps197
  go_wp2_with fail
  go_ret
  exact⟨by rw[hf.out];rfl,rfl⟩
 have hh:headN s<=255:=by have:=(s.getD 0 0).toNat_lt;unfold headN;omega
 obtain⟨g,o,rfl,hgB,hcell⟩:=hu.at_ (by omega);have x0:w.cell? ⟨g,o,none⟩=some (.int .u8 (headN s:Int)):=hcell 0 (by omega);have i0:(0:Int)<(s.length:Int):=by omega
 by_cases g1:headN s<=6
 ·have i1:(headN s:Int)<=6:=by omega
  have hlen:=fun W=>tlength_any (headN s) W hh
  have hsn:565+32 * headN s=sizeN s:=rfl;rw[hsn] at hlen;have hf:Hid (fitsG s=decide (s.length=sizeN s)):=by show _=_;unfold fitsG;simp[g1];omega
  have iw:IntKind.i64.wrap (headN s:Int)=(headN s:Int):=by rw[xwi];omega
  generalize headN s=h at *;generalize sizeN s=z at *;replace hlen:=lhd hlen;clear hu hcell hsn
  go_enter func197,ntmps197
  go_wp2_with fail
  refine (hlen.out _).mono ?_;rintro e w0 ⟨rfl,hw0⟩;obtain rfl:=hw0.symm;dsimp only
  go_wp2_with fail
  go_ret
  have h8:decide (((s.length:Nat):Int)=(z:Int))=decide (s.length=z):=by
   by_cases h9:s.length=z
   ·rw[decide_eq_true h9,decide_eq_true (by omega)]
   rw[decide_eq_false h9,decide_eq_false (by omega)]
  exact⟨by rw[hf.out,<-h8];rfl,rfl⟩
 have i1:¬(headN s:Int)<=6:=by omega
 have hf:Hid (fitsG s=false):=by show _=_;unfold fitsG;simp;omega
 generalize headN s=h at *;clear hu hcell
 go_enter func197,ntmps197
 go_wp2_with fail
 go_ret
 exact⟨by rw[hf.out];rfl,rfl⟩
def DNamesP (w:World) (e:Ending) (w':World):Prop:=∃v v2,e=.returned (.tuple #[v,v2])/\SeesR w' w'.heap.size v 1 3 (nameS names3)/\SeesR w' w'.heap.size v2 1 2 (nameS namesA)/\Below w.heap.size w w'
theorem names3_lit (W:World):SeesR (W.alloc (.cells #[.string ⟨#[75,69,89,83]⟩,.string ⟨#[83,73,71,78]⟩,.string ⟨#[83,80,65,78]⟩] 9)) (W.heap.size+1) (.slice (some ⟨W.heap.size,0,none⟩) 3 3) 1 3 (nameS names3):=names_lit W 9 names3 (by simp[names3])
theorem namesA_lit (W:World):SeesR (W.alloc (.cells #[.string ⟨#[65,78,83,87]⟩,.string ⟨#[67,69,82,84]⟩] 9)) (W.heap.size+1) (.slice (some ⟨W.heap.size,0,none⟩) 2 2) 1 2 (nameS namesA):=names_lit W 9 namesA (by simp[namesA])
theorem dnames_any (w:World):Calls prog 129 #[] w (DNamesP w):=by
 have h1:=names3_lit w;have b1:=balloc w (.cells #[.string ⟨#[75,69,89,83]⟩,.string ⟨#[83,73,71,78]⟩,.string ⟨#[83,80,65,78]⟩] 9);have b2:=balloc (w.alloc (.cells #[.string ⟨#[75,69,89,83]⟩,.string ⟨#[83,73,71,78]⟩,.string ⟨#[83,80,65,78]⟩] 9)) (.cells #[.string ⟨#[65,78,83,87]⟩,.string ⟨#[67,69,82,84]⟩] 9);have h2:=namesA_lit (w.alloc (.cells #[.string ⟨#[75,69,89,83]⟩,.string ⟨#[83,73,71,78]⟩,.string ⟨#[83,80,65,78]⟩] 9));rw[xsa] at h2;have h3:=(h1.below (by rw[xsa] at b2;exact b2)).more (B':=w.heap.size+1+1) (by omega);have hb:=lhd (bgo b1 b2);replace h2:=lhd h2;replace h3:=lhd h3;clear b1 b2 h1
 go_enter func129,ntmps129
 go_wp2_with fail
 go_returns
 refine⟨_,_,rfl,?_,?_,hb.out⟩
 ·rw[xsa,xsa];exact h3.out
 rw[xsa,xsa];exact h2.out
def DEncP (p:Bs) (f t:Int) (s:Bs) (w:World) (e:Ending) (w':World):Prop:=∃v,e=.returned (.tuple #[v,.int .i64 (dencC p f t s)])/\OwnB w' w.heap.size v (dencB p f t s)/\Below w.heap.size w w'
theorem denc_bad {p s:Bs} {f t c:Int} (h:dencC p f t s=c) (hc:c≠0) {w w':World} {e:Ending} (he:e=.returned (.tuple #[.slice none 0 0,.int .i64 c])) (hb:Below w.heap.size w w'):DEncP p f t s w e w':=by
 refine⟨.slice none 0 0,by rw[h];exact he,?_,hb⟩;rw[dencB,if_neg (by rw[h];exact hc)];exact World.ownsRow_nil _ _ _ 1
theorem denc_ok {p s:Bs} {f t:Int} (h:dencC p f t s=0) {w W w':World} {v:Value} {e:Ending} (he:e=.returned (.tuple #[v,.int .i64 (encC (dtags p f t s))])) (h1:OwnB w' W.heap.size v (encT (dtags p f t s))) (hW:w.heap.size<=W.heap.size) (hb:Below w.heap.size w w'):DEncP p f t s w e w':=by
 obtain⟨e1,e2⟩:=dtags_enc p f t s h;rw[e1] at he;rw[e2] at h1;exact⟨v,by rw[h];exact he,h1.mono hW,hb⟩
theorem dencode_any (B:Nat) (u u2:Value) (p s:Bs) (f t:Int) (w:World) (hu:SeesB w B u p) (hu2:SeesB w B u2 s) (hB:B<=w.heap.size) (hp:p.length<=1048576) (hs:s.length<=1048576) :
 Calls prog 127 #[.agg #[u,.int .i64 f,.int .i64 t,u2]] w (DEncP p f t s w):=by
 obtain⟨Ap,cp,rfl,-,-⟩:=hu.mk_;obtain⟨As,cs,rfl,-,-⟩:=hu2.mk_;have hal:=balloc w (.cells #[.slice Ap p.length cp,.int .i64 f,.int .i64 t,.slice As s.length cs] 94);have hx:=Box.new w 94 [.slice Ap p.length cp,.int .i64 f,.int .i64 t,.slice As s.length cs];change Box (w.alloc (.cells #[.slice Ap p.length cp,.int .i64 f,.int .i64 t,.slice As s.length cs] 94)) _ _ _ at hx;have sp:=seesB_of hu hB hal;have ss:=seesB_of hu2 hB hal;have hd:Hid (dencC p f t s=if p.length=32 then (if vS f t&&fitsG s then 0 else 3) else 5):=rfl;have y0:=hx.cell 0;have y1:=hx.cell 1;have y2:=hx.cell 2;have y3:=hx.cell 3;simp only[xqz,xqs] at y0 y1 y2 y3;clear hu hu2
 by_cases hp32:p.length=32
 ·have ip:((p.length:Int) != 32)=false:=by simp;omega
  have hwn:=lhd (fun W=>dwindow_any Ap p.length cp As s.length cs f t W);have hva:=lhd (fun W=>valid_any f t W);replace hal:=lhd hal;cases hv:vS f t with
  | false=>
    have hC:Hid (dencC p f t s=3):=by show _=_;rw[hd.out,if_pos hp32,hv];rfl
    rw[hv] at hva;replace hp32:=lhd hp32;replace hv:=lhd hv;clear sp ss hd
    go_enter func127,ntmps127
    go_upto_region 1 with (fail)
    generalize w.alloc (.cells #[.slice Ap p.length cp,.int .i64 f,.int .i64 t,.slice As s.length cs] 94)=W0 at *;generalize hgg:w.heap.size=g at hx y0 y1 y2 y3 hal ⊢;replace hgg:=lhd hgg
    go_wp2_with fail
    refine (hwn.out _).mono ?_;rintro e w1 ⟨rfl,hb1⟩;dsimp only
    go_wp2_with fail
    refine (hva.out _).mono ?_;rintro e w2 ⟨rfl,hb2⟩;dsimp only
    go_wp2_with fail
    go_returns
    exact denc_bad hC.out (by decide) rfl (bgoD hal.out (bgo hb1 hb2) hgg.out.symm)
  | true=>
    rw[hv] at hva;have hC:Hid (dencC p f t s=if fitsG s then 0 else 3):=by show _=_;rw[hd.out,if_pos hp32,hv];rfl
    have hft:=lhd (fun W (hW:Below (w.alloc (.cells #[.slice Ap p.length cp,.int .i64 f,.int .i64 t,.slice As s.length cs] 94)).heap.size (w.alloc (.cells #[.slice Ap p.length cp,.int .i64 f,.int .i64 t,.slice As s.length cs] 94)) W)=>fits_any _ _ s W (seesB_of ss nlr hW));have hv':=lhd hv;replace hp32:=lhd hp32;replace sp:=lhd sp;replace ss:=lhd ss;clear hd
    go_enter func127,ntmps127
    go_upto_region 1 with (fail)
    generalize w.alloc (.cells #[.slice Ap p.length cp,.int .i64 f,.int .i64 t,.slice As s.length cs] 94)=W0 at *;generalize hgg:w.heap.size=g at hx y0 y1 y2 y3 hal ⊢;replace hgg:=lhd hgg
    go_wp2_with fail
    refine (hwn.out _).mono ?_;rintro e w1 ⟨rfl,hb1⟩;dsimp only
    go_wp2_with fail
    refine (hva.out _).mono ?_;rintro e w2 ⟨rfl,hb2⟩;have hb02:=bgo hb1 hb2;have hx2:=hx.below hb02;have z3:=hx2.cell 3;simp only[xqz,xqs] at z3;clear y0 y1 y2 y3;dsimp only
    go_wp2_with fail
    refine (hft.out _ hb02).mono ?_;rintro e w3 ⟨rfl,hw3⟩;obtain rfl:=hw3.symm;clear hft z3;dsimp only;cases hF:fitsG s with
    | false=>
      rw[hF] at hC;replace hF:=lhd hF
      go_wp2_with fail
      go_returns
      exact denc_bad hC.out (by decide) rfl (bgoD hal.out hb02 hgg.out.symm)
    | true=>
      rw[hF] at hC;replace hF:=lhd hF;have hsp:=lhd (fun W=>span_any f t W);have hnm:=lhd (fun W=>dnames_any W);have hwn2:=hwn;have q0:w2.cell? ⟨g,0,none⟩=some (.slice Ap p.length cp):=hx2.cell 0;have q1:w2.cell? ⟨g,1,none⟩=some (.int .i64 f):=hx2.cell 1;have q2:w2.cell? ⟨g,2,none⟩=some (.int .i64 t):=hx2.cell 2;have q3:w2.cell? ⟨g,3,none⟩=some (.slice As s.length cs):=hx2.cell 3
      go_wp2_with fail
      refine (hwn2.out _).mono ?_;rintro e w4 ⟨rfl,hb4⟩;clear q0 q1 q2 q3;dsimp only
      go_wp2_with fail
      refine (hsp.out _).mono ?_;rintro e w5 ⟨v5,rfl,o5,hb5⟩;rw[show spanL f t=spanB f t by rw[spanL,if_pos hv'.out]] at o5;obtain⟨A5,c5,rfl,-,-⟩:=o5.sees.mk_;dsimp only
      go_wp2_with fail
      refine (hnm.out _).mono ?_;rintro e w6 ⟨v6,v6',rfl,n6,-,hb6⟩;obtain⟨A6,c6,rfl,-,-⟩:=n6.mk_;have hb25:=bgo hb4 hb5;have hb26:=bgo hb25 hb6;have s5:=seesB_of o5.sees nlr hb6;have hb06:=bgo hb02 hb26;have hx6:=hx.below hb06;have sp6:=seesB_of sp.out nlr hb06;have ss6:=seesB_of ss.out nlr hb06;have K:Hid (∀W:World,Below w6.heap.size w6 W->W.cell? ⟨g,0,none⟩=some (.slice Ap p.length cp)/\W.cell? ⟨g,3,none⟩=some (.slice As s.length cs)):=fun W hW=>⟨(hx6.below hW).cell 0,(hx6.below hW).cell 3⟩
      have hpd:=lhd (padded_any _ _ s w6.drew (seesB_of ss6 nlr (bdrew w6)) nlr hs);have hms:=fun (W:World) (A7:Option Addr) (c7:Nat) (hW:Below w6.heap.size w6 W) (h7:SeesB W W.heap.size (.slice A7 (pad4 s).length c7) (pad4 s))=>
       message_any (W.alloc (.cells #[.slice Ap p.length cp,.slice A7 (pad4 s).length c7,.slice A5 (spanB f t).length c5] 25)).heap.size (.slice A6 3 c6) (.slice (some ⟨W.heap.size,0,none⟩) 3 3) names3 [p,pad4 s,spanB f t] (W.alloc (.cells #[.slice Ap p.length cp,.slice A7 (pad4 s).length c7,.slice A5 (spanB f t).length c5] 25))
        ((n6.below (bgo hW (balloc W _))).more (bgo hW (balloc W _)).size)
        (seesL_lit W 25 (vs:=[.slice Ap p.length cp,.slice A7 (pad4 s).length c7,.slice A5 (spanB f t).length c5]) ⟨seesB_of sp6 nlr hW,h7,seesB_of s5 nlr hW,trivial⟩ (by simp[maxLen]))
        nlr rfl (by simp[names3]) (by
         have h1:=pad4_len s;have h2:=head_le s hF.out;have h3:=hp32.out;simp only[names3,List.zip_cons_cons,List.zip_nil_right,dataT,xmp,List.map_nil,xfc,List.flatten_nil,xla,List.length_nil,spanB_len]
         omega)
      have hz:names3.zip [p,pad4 s,spanB f t]=dtags p f t s:=rfl;rw[hz] at hms;have hsl:=lhd (spanB_len f t);generalize spanB f t=S at *;generalize pad4 s=P at *;replace hms:=lhd hms;obtain⟨x0,x3⟩:=K.out w6 (Below.refl _ _);have hfin:=lhd (bgo hb02 hb26);clear hb4 hb5 hb6 hb25 hb26 hb06 hx6 sp6 ss6 s5 o5 n6 hx hx2 hwn hwn2 hva hsp hnm sp ss hz;dsimp only
      go_wp2_with fail
      go_region_held3 (fun W':World=>W'.cell? ⟨g,0,none⟩=some (.slice Ap p.length cp)/\W'.cell? ⟨g,3,none⟩=some (.slice As s.length cs))
       (first | (with_reducible exact K.out _ hb8) | (with_reducible exact K.out _ hb7) | exact K.out _ (by (repeat (first | exact Below.refl _ _ | (refine bgo ?_ (balloc _ _)) | (refine bgo ?_ (bdrew _)) | (refine bgo ?_ (by assumption))))) | (go_keep;done))
       (first
        | (go_at_call 72;(with_reducible refine (hms.out w7 A7 c7 hb7 s7).mono ?_);rintro e w8 ⟨v8,rfl,o8,hb8⟩
           obtain⟨A8,c8,rfl,-,-⟩:=o8.sees.mk_;have hsz:=hb7.size;replace hb8:=bgo (bgo hb7 (balloc w7 _)) hb8)
        | (go_at_call 75;(with_reducible refine hpd.out.mono ?_);rintro e w7 ⟨v7,rfl,o7,hb7⟩
           replace hb7:=bgo (bdrew w6) hb7;have s7:=o7.sees;obtain⟨A7,c7,rfl,-,-⟩:=o7.sees.mk_))
      all_goals
       have hfin2:=bgo hfin.out hb8;have hw7:w.heap.size<=(w7.alloc (.cells #[.slice Ap p.length cp,.slice A7 P.length c7,.slice A5 S.length c5] 25)).heap.size:=by
        have h1:=(bgoD hal.out hfin.out hgg.out.symm).size;rw[xsa]
        omega
       clear x0 x3 K hms hpd o7 s7 hb7 hb8 hsz
       go_wp2_with fail
       go_returns
       exact denc_ok hC.out rfl o8 hw7 (bgoD hal.out hfin2 hgg.out.symm)
 have ip:((p.length:Int) != 32)=true:=by simp;omega
 have hC:Hid (dencC p f t s=5):=by show _=_;rw[hd.out,if_neg hp32]
 clear sp ss hd y1 y2 y3 hp32
 go_enter func127,ntmps127
 go_wp2_with fail
 go_returns
 exact denc_bad hC.out (by decide) rfl hal
def delP (b:Bs):Bs:=if delC b=0 then datN b 0 else []
def delS (b:Bs):Bs:=if delC b=0 then (unpadG (datN b 1)).getD [] else []
def delLo (b:Bs):Int:=if delC b=0 then unLo (datN b 2) else 0
def delHi (b:Bs):Int:=if delC b=0 then unHi (datN b 2) else 0
def DDecP (b:Bs) (w:World) (e:Ending) (w':World):Prop:=
 ∃v1 v2,e=.returned (.tuple #[.agg #[v1,.int .i64 (delLo b),.int .i64 (delHi b),v2],.int .i64 (delC b)])/\SeesB w' w'.heap.size v1 (delP b)/\SeesB w' w'.heap.size v2 (delS b)/\Below w.heap.size w w'
theorem ddec_bad {b:Bs} {c:Int} (h:delC b=c) (hc:c≠0) {w w':World} {e:Ending} (he:e=.returned (.tuple #[.agg #[.slice none 0 0,.int .i64 0,.int .i64 0,.slice none 0 0],.int .i64 c])) (hb:Below w.heap.size w w'):DDecP b w e w':=by
 have h0:¬delC b=0:=by rw[h];exact hc
 refine⟨.slice none 0 0,.slice none 0 0,?_,?_,?_,hb⟩
 ·rw[delLo,delHi,if_neg h0,if_neg h0,h];exact he
 ·rw[delP,if_neg h0];exact SeesB.nil _ _
 rw[delS,if_neg h0];exact SeesB.nil _ _
theorem ddec_ok {b s:Bs} {v1 v2:Value} {lo hi:Int} (h:delC b=0) (hs:unpadG (datN b 1)=some s) (hlo:unLo (datN b 2)=lo) (hhi:unHi (datN b 2)=hi) {w w':World} {e:Ending} (he:e=.returned (.tuple #[.agg #[v1,.int .i64 lo,.int .i64 hi,v2],.int .i64 0])) (h1:SeesB w' w'.heap.size v1 (datN b 0)) (h2:SeesB w' w'.heap.size v2 s) (hb:Below w.heap.size w w'):DDecP b w e w':=by
 refine⟨v1,v2,?_,?_,?_,hb⟩
 ·rw[delLo,delHi,if_pos h,if_pos h,h,hlo,hhi];exact he
 ·rw[delP,if_pos h];exact h1
 rw[delS,if_pos h,hs];exact h2
theorem box_set4 {W:World} {g:Nat} {T:TypeId} {a0 a1 a2 a3:Value} (h:Box W g T [a0,a1,a2,a3]) (x0 x1 x2 x3:Value):Box ((((W.setCell ⟨g,0,none⟩ x0).setCell ⟨g,1,none⟩ x1).setCell ⟨g,2,none⟩ x2).setCell ⟨g,3,none⟩ x3) g T [x0,x1,x2,x3]:=by
 have y:=(((h.set 0 x0).set 1 x1).set 2 x2).set 3 x3
 simpa only [xsz,xss] using y
theorem bset4 {w W:World} {g:Nat} (h:Below w.heap.size w W) (hg:w.heap.size<=g) (x0 x1 x2 x3:Value):Below w.heap.size w ((((W.setCell ⟨g,0,none⟩ x0).setCell ⟨g,1,none⟩ x1).setCell ⟨g,2,none⟩ x2).setCell ⟨g,3,none⟩ x3):=
 (((h.setCell (p:=⟨g,0,none⟩) hg _).setCell (p:=⟨g,1,none⟩) hg _).setCell (p:=⟨g,2,none⟩) hg _).setCell (p:=⟨g,3,none⟩) hg _
theorem sees_set4 {W:World} {g:Nat} {T:TypeId} {a0 a1 a2 a3 u:Value} {l:Bs} (h:Box W g T [a0,a1,a2,a3]) (n:NoByte [a0,a1,a2,a3]) (x0 x1 x2 x3:Value) (hs:SeesB W W.heap.size u l):SeesB ((((W.setCell ⟨g,0,none⟩ x0).setCell ⟨g,1,none⟩ x1).setCell ⟨g,2,none⟩ x2).setCell ⟨g,3,none⟩ x3) ((((W.setCell ⟨g,0,none⟩ x0).setCell ⟨g,1,none⟩ x1).setCell ⟨g,2,none⟩ x2).setCell ⟨g,3,none⟩ x3).heap.size u l:=by
 have hz:((((W.setCell ⟨g,0,none⟩ x0).setCell ⟨g,1,none⟩ x1).setCell ⟨g,2,none⟩ x2).setCell ⟨g,3,none⟩ x3).heap.size=W.heap.size:=by simp[World.setCell]
 rw[hz];exact hs.over nlr h n (ggo (ggo (ggo (setCell_grown W g 0 x0) (setCell_grown _ g 1 x1)) (setCell_grown _ g 2 x2)) (setCell_grown _ g 3 x3))
def D12 (w6:World) (x0:Value) (lo hi:Int) (x3 v12:Value) (W:World):Prop:=
 ∃g,v12=.pointer (some ⟨g,0,none⟩)/\Box W g 94 [x0,.int .i64 lo,.int .i64 hi,x3]/\w6.heap.size<=g/\Below w6.heap.size w6 W
theorem d12_new (w6:World) (x0:Value) (lo hi:Int) (x3:Value):D12 w6 x0 lo hi x3 (.pointer (some ⟨w6.heap.size,0,none⟩)) (w6.alloc (.cells #[x0,.int .i64 lo,.int .i64 hi,x3] 94)):=
 ⟨_,rfl,Box.new w6 94 [x0,.int .i64 lo,.int .i64 hi,x3],Nat.le_refl _,balloc _ _⟩
theorem d12_drew {w6 W:World} {x0:Value} {lo hi:Int} {x3 v12:Value} (h:D12 w6 x0 lo hi x3 v12 W):D12 w6 x0 lo hi x3 v12 W.drew:=by
 obtain⟨g,h1,h2,h3,h4⟩:=h;exact⟨g,h1,h2,h3,h4.drew⟩
theorem d12_set (w6:World) (x0:Value) (lo hi:Int) (x3:Value):D12 w6 x0 lo hi x3 (.pointer (some ⟨w6.heap.size,0,none⟩)) (((((w6.alloc (.cells #[.slice none 0 0,.int .i64 0,.int .i64 0,.slice none 0 0] 94)).setCell ⟨w6.heap.size,0,none⟩ x0).setCell ⟨w6.heap.size,1,none⟩ (.int .i64 lo)).setCell ⟨w6.heap.size,2,none⟩ (.int .i64 hi)).setCell ⟨w6.heap.size,3,none⟩ x3):=
 ⟨_,rfl,box_set4 (Box.new w6 94 [.slice none 0 0,.int .i64 0,.int .i64 0,.slice none 0 0]) x0 (.int .i64 lo) (.int .i64 hi) x3,Nat.le_refl _,bset4 (balloc w6 _) nlr _ _ _ _⟩
theorem noZ4:NoByte [.slice none 0 0,.int .i64 0,.int .i64 0,.slice none 0 0]:=noBL4 (NoB.s none 0 0) (NoB.i 0) (NoB.i 0) (NoB.s none 0 0)
theorem dat_get (b:Bs) (k:Nat):((decT b).map (·.2)).getD k []=datN b k:=by
 unfold datN;rw[xgd,xgd,xgm];cases (decT b)[k]?<;>rfl
theorem delC_err {b:Bs} (h:decC b≠0):delC b=decC b:=by unfold delC;rw[if_neg h]
theorem delC_no {b:Bs} (h:decC b=0) (h2:delOk b=false):delC b=3:=by unfold delC;rw[if_pos h,h2];rfl
theorem delC_yes {b:Bs} (h:decC b=0) (h2:delOk b=true):delC b=0:=by unfold delC;rw[if_pos h,h2];rfl
end Go.Proofs.YtjgepckncogdaaaGreat
