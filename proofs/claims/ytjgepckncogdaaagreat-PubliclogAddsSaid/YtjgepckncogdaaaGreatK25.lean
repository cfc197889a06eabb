/- Contracts of functions, walks, plain facts. Conditions: those of each theorem. -/
import Derived.Test.YtjgepckncogdaaaGreatK20
import Derived.Test.YtjgepckncogdaaaGreatK17
set_option linter.unusedVariables false
set_option linter.unusedSimpArgs false
set_option maxRecDepth 100000
set_option maxHeartbeats 16000000
namespace Go.Proofs.YtjgepckncogdaaaGreat
open Go Go.RowKit _root_.Go.Proofs.Tryz
attribute [local go_sem ↓] Go.wp_at_zero Go.wp_at_succ
theorem unpad_some_head {s:Bs} (h:(unpadG (pad4 s)).isSome=true):0<s.length:=by
 cases s with
 | nil=>simp[unpadG,pad4] at h
 | cons x r=>simp
theorem dtags_lit (W:World) (v1 v2 v3:Value) (p S P:Bs) (h1:SeesB W W.heap.size v1 p) (h2:SeesB W W.heap.size v2 P) (h3:SeesB W W.heap.size v3 S) :
 SeesR (W.alloc (.cells #[.string ⟨#[75,69,89,83]⟩,v1,.string ⟨#[83,73,71,78]⟩,v2,.string ⟨#[83,80,65,78]⟩,v3] 173)) (W.heap.size+1) (.slice (some ⟨W.heap.size,0,none⟩) 3 3) 2 3 (tagS [(nKEYS,p),(nSIGN,P),(nSPAN,S)]):=by
 have hb:=balloc W (.cells #[.string ⟨#[75,69,89,83]⟩,v1,.string ⟨#[83,73,71,78]⟩,v2,.string ⟨#[83,80,65,78]⟩,v3] 173);refine⟨rfl,[.string ⟨#[75,69,89,83]⟩,v1,.string ⟨#[83,73,71,78]⟩,v2,.string ⟨#[83,80,65,78]⟩,v3],⟨rfl,_,_,rfl,by omega,by simp[maxLen],fun _=>⟨W.heap.size,0,rfl,by omega,fun j u hu=>?_⟩⟩,fun k s hk=>?_⟩
 ·rw[Nat.zero_add,block_cell (heap_alloc_new W _)]
  exact hu
 have e1:tagS [(nKEYS,p),(nSIGN,P),(nSPAN,S)]=[Spec.val (.string (strB nKEYS)),.byt p,.val (.string (strB nSIGN)),.byt P,.val (.string (strB nSPAN)),.byt S]:=rfl;rw[e1] at hk;have f:∀{v:Value} {l:Bs},SeesB W W.heap.size v l->FitS (W.alloc (.cells #[.string ⟨#[75,69,89,83]⟩,v1,.string ⟨#[83,73,71,78]⟩,v2,.string ⟨#[83,80,65,78]⟩,v3] 173)) (W.heap.size+1) v (.byt l):=fun h=>(h.below hb).more (by omega)
 match k,hk with
 | 0,hk=>cases hk;exact⟨_,rfl,rfl,rfl⟩
 | 1,hk=>cases hk;exact⟨_,rfl,f h1⟩
 | 2,hk=>cases hk;exact⟨_,rfl,rfl,rfl⟩
 | 3,hk=>cases hk;exact⟨_,rfl,f h2⟩
 | 4,hk=>cases hk;exact⟨_,rfl,rfl,rfl⟩
 | 5,hk=>cases hk;exact⟨_,rfl,f h3⟩
 | k+6,hk=>simp at hk
theorem rdencode_any (B:Nat) (u u2:Value) (p s:Bs) (f t:Int) (w:World) (hu:SeesB w B u p) (hu2:SeesB w B u2 s) (hB:B<=w.heap.size) (hp:p.length<=1048576) (hs:s.length<=4000) :
 Calls prog 224 #[.agg #[u,.int .i64 f,.int .i64 t,u2]] w (DEncP p f t s w):=by
 obtain⟨Ap,cp,rfl,-,-⟩:=hu.mk_;obtain⟨As,cs,rfl,-,-⟩:=hu2.mk_;have hal:=balloc w (.cells #[.slice Ap p.length cp,.int .i64 f,.int .i64 t,.slice As s.length cs] 94);have hx:=Box.new w 94 [.slice Ap p.length cp,.int .i64 f,.int .i64 t,.slice As s.length cs];change Box (w.alloc (.cells #[.slice Ap p.length cp,.int .i64 f,.int .i64 t,.slice As s.length cs] 94)) _ _ _ at hx;have sp:=seesB_of hu hB hal;have ss:=seesB_of hu2 hB hal;have hd:Hid (dencC p f t s=if p.length=32 then (if vS f t&&fitsG s then 0 else 3) else 5):=rfl;have y0:=hx.cell 0;have y1:=hx.cell 1;have y2:=hx.cell 2;have y3:=hx.cell 3;simp only[xqz,xqs] at y0 y1 y2 y3;clear hu hu2
 by_cases hp32:p.length=32
 ·have ip:((p.length:Int) != 32)=false:=by simp;omega
  have ip2:¬((p.length:Int)≠32):=by omega
  have hwn:=lhd (fun W=>rwindow_any Ap p.length cp As s.length cs f t W);have hva:=lhd (fun W=>rvalid_any f t W);have hpd:=lhd (fun W (hW:Below (w.alloc (.cells #[.slice Ap p.length cp,.int .i64 f,.int .i64 t,.slice As s.length cs] 94)).heap.size (w.alloc (.cells #[.slice Ap p.length cp,.int .i64 f,.int .i64 t,.slice As s.length cs] 94)) W)=>rpad_any W.heap.size _ s W (seesB_of ss nlr hW) nlr (by omega));have hpl:=pad4_len s;have hun:=lhd (fun W v (hv:SeesB W W.heap.size v (pad4 s))=>unpad_both' (unpad_any W.heap.size v (pad4 s) W hv nlr (by omega)));have hC:Hid (dencC p f t s=if vS f t&&fitsG s then 0 else 3):=by show _=_;rw[hd.out,if_pos hp32]
  replace hal:=lhd hal;replace hp32:=lhd hp32;replace hpl:=lhd hpl;replace sp:=lhd sp;replace ss:=lhd ss;clear hd
  go_enter func224,ntmps224
  go_upto_region 1 with (fail)
  generalize w.alloc (.cells #[.slice Ap p.length cp,.int .i64 f,.int .i64 t,.slice As s.length cs] 94)=W0 at *;generalize hgg:w.heap.size=g at hx y0 y1 y2 y3 hal ⊢;replace hgg:=lhd hgg
  go_wp2_with fail
  refine (hpd.out _ (Below.refl _ _)).mono ?_;rintro e w1 ⟨v1,rfl,o1,hb1⟩;dsimp only
  go_wp2_with fail
  refine (hun.out _ _ o1.sees).mono ?_;rintro e w2 ⟨A2,n2,c2,rfl,hb2,-⟩;have hb02:=bgo hb1 hb2;have hx2:=hx.below hb02;have hfit:=lhd (fits_iff s);have hhd:Hid ((unpadG (pad4 s)).isSome=true->0<s.length):=unpad_some_head;have ss2:=lhd (seesB_of ss.out nlr hb02);generalize hI:(unpadG (pad4 s)).isSome=I at *;replace hI:=lhd hI;have K:Hid (∀W:World,Below w2.heap.size w2 W->W.cell? ⟨g,0,none⟩=some (.slice Ap p.length cp)/\W.cell? ⟨g,1,none⟩=some (.int .i64 f)/\W.cell? ⟨g,2,none⟩=some (.int .i64 t)/\W.cell? ⟨g,3,none⟩=some (.slice As s.length cs)):=fun W hW=>⟨(hx2.below hW).cell 0,(hx2.below hW).cell 1,(hx2.below hW).cell 2,(hx2.below hW).cell 3⟩
  clear y0 y1 y2 y3 hb1 hb2 o1;obtain⟨y0,y1,y2,y3⟩:=K.out w2 (Below.refl _ _);dsimp only;cases hv:vS f t with
  | false=>
    have hC3:Hid (dencC p f t s=3):=by show _=_;rw[hC.out,hv];rfl
    rw[hv] at hva;replace hv:=lhd hv
    go_upto_region 4 with (fail)
    first
     | (go_region_with
      (first
       | (go_at_call 226;(with_reducible refine (hwn.out _).mono ?_);rintro e w3 ⟨rfl,hb3⟩;replace hb3:=bgo (bdrew w2) hb3)
       | (go_at_call 17;(with_reducible refine (hva.out _).mono ?_);rintro e w4 ⟨rfl,hb4⟩;replace hb4:=bgo hb3 hb4)))
     | fail
    all_goals
     have hfin:=bgo hb02 hb4;clear K hb3 hb4 y0 y1 y2 y3
     go_wp2_with fail
     go_returns
     exact denc_bad hC3.out (by decide) rfl (bgoD hal.out hfin hgg.out.symm)
  | true=>
    rw[hv] at hva;cases I with
    | false=>
      have hC3:Hid (dencC p f t s=3):=by show _=_;rw[hC.out,hv,hfit.out];simp
      replace hv:=lhd hv
      go_upto_region 4 with (fail)
      first
       | (go_region_with
        (first
         | (go_at_call 226;(with_reducible refine (hwn.out _).mono ?_);rintro e w3 ⟨rfl,hb3⟩;replace hb3:=bgo (bdrew w2) hb3)
         | (go_at_call 17;(with_reducible refine (hva.out _).mono ?_);rintro e w4 ⟨rfl,hb4⟩;replace hb4:=bgo hb3 hb4)))
       | fail
      all_goals
       have hfin:=bgo hb02 hb4;clear K hb3 hb4 y0 y1 y2 y3
       go_wp2_with fail
       go_returns
       exact denc_bad hC3.out (by decide) rfl (bgoD hal.out hfin hgg.out.symm)
    | true=>
      have hpos:=hhd.out rfl;have hC4:Hid (dencC p f t s=if decide (s.length=sizeN s) then 0 else 3):=by show _=_;rw[hC.out,hv,hfit.out,decide_eq_true hpos];rfl
      obtain⟨bs,os,rfl,hbs,hcell⟩:=ss2.out.at_ hpos;have z0:w2.cell? ⟨bs,os,none⟩=some (.int .u8 (headN s:Int)):=hcell 0 hpos;have hh:headN s<=255:=by have:=(s.getD 0 0).toNat_lt;unfold headN;omega
      have hlen:=fun W=>rsize_any (headN s) W hh
      have hsn:565+32 * headN s=sizeN s:=rfl;rw[hsn] at hlen;have K2:Hid (∀W:World,Below w2.heap.size w2 W->W.cell? ⟨g,0,none⟩=some (.slice Ap p.length cp)/\W.cell? ⟨g,1,none⟩=some (.int .i64 f)/\W.cell? ⟨g,2,none⟩=some (.int .i64 t)/\W.cell? ⟨g,3,none⟩=some (.slice (some ⟨bs,os,none⟩) s.length cs)/\W.cell? ⟨bs,os,none⟩=some (.int .u8 (headN s:Int))):=fun W hW=>by
       obtain⟨k0,k1,k2,k3⟩:=K.out W hW;exact⟨k0,k1,k2,k3,(hW.cell (p:=⟨bs,os,none⟩) hbs).trans z0⟩
      have iw:IntKind.i64.wrap (headN s:Int)=(headN s:Int):=by rw[xwi];omega
      have i0:(0:Int)<(s.length:Int):=by omega
      have hv':=lhd hv;clear hcell hsn K hv;generalize headN s=hd at *;generalize sizeN s=z at *;replace hlen:=lhd hlen
      go_upto_region 4 with (fail)
      go_region_held3 (fun W':World=>W'.cell? ⟨g,0,none⟩=some (.slice Ap p.length cp)/\W'.cell? ⟨g,1,none⟩=some (.int .i64 f)/\W'.cell? ⟨g,2,none⟩=some (.int .i64 t)/\W'.cell? ⟨g,3,none⟩=some (.slice (some ⟨bs,os,none⟩) s.length cs)/\W'.cell? ⟨bs,os,none⟩=some (.int .u8 (hd:Int)))
       (first | (with_reducible exact K2.out _ hb4) | (with_reducible exact K2.out _ hb3) | exact K2.out _ (by (repeat (first | exact Below.refl _ _ | (refine bgo ?_ (balloc _ _)) | (refine bgo ?_ (bdrew _)) | (refine bgo ?_ (by assumption))))) | (go_keep;done))
       (first
        | (go_at_call 226;(with_reducible refine (hwn.out _).mono ?_);rintro e w3 ⟨rfl,hb3⟩;replace hb3:=bgo (bdrew w2) hb3)
        | (go_at_call 17;(with_reducible refine (hva.out _).mono ?_);rintro e w4 ⟨rfl,hb4⟩;replace hb4:=bgo hb3 hb4)
        | (go_at_call 264;(with_reducible refine (hlen.out _).mono ?_);rintro e w5 ⟨rfl,hw5⟩;obtain rfl:=hw5.symm))
      all_goals
       have hfin:=bgo hb02 hb4
       by_cases hz:s.length=z
       ·have iz:((s.length:Nat):Int)=(z:Int):=by omega
        have hC0:Hid (dencC p f t s=0):=by show _=_;rw[hC4.out,decide_eq_true hz];rfl
        have hP4:=lhd (seesB_of ss2.out nlr hb4);have sp4:=lhd (seesB_of sp.out nlr hfin);have K4:Hid (∀W:World,Below w4.heap.size w4 W->W.cell? ⟨g,0,none⟩=some (.slice Ap p.length cp)/\W.cell? ⟨g,1,none⟩=some (.int .i64 f)/\W.cell? ⟨g,2,none⟩=some (.int .i64 t)/\W.cell? ⟨g,3,none⟩=some (.slice (some ⟨bs,os,none⟩) s.length cs)):=fun W hW=>by
         obtain⟨k0,k1,k2,k3,-⟩:=K2.out W (bgo hb4 hW);exact⟨k0,k1,k2,k3⟩
        have hpd4:=fun (W:World) (hW:Below w4.heap.size w4 W)=>rpad_any W.heap.size _ s W (seesB_of hP4.out nlr hW) nlr (by omega)
        have hby:=fun (W:World)=>rspanbytes_any f t W
        have hen:=fun (W:World) (A8 A9:Option Addr) (c8 c9:Nat) (hW:Below w4.heap.size w4 W) (h8:SeesB W W.heap.size (.slice A8 (pad4 s).length c8) (pad4 s)) (h9:SeesB W W.heap.size (.slice A9 (spanB f t).length c9) (spanB f t))=>
         rencode_any (W.heap.size+1) (.slice (some ⟨W.heap.size,0,none⟩) 3 3) (dtags p f t s) (W.alloc (.cells #[.string ⟨#[75,69,89,83]⟩,.slice Ap p.length cp,.string ⟨#[83,73,71,78]⟩,.slice A8 (pad4 s).length c8,.string ⟨#[83,80,65,78]⟩,.slice A9 (spanB f t).length c9] 173))
          (dtags_lit W (.slice Ap p.length cp) (.slice A8 (pad4 s).length c8) (.slice A9 (spanB f t).length c9) p (spanB f t) (pad4 s) (seesB_of sp4.out nlr hW) h8 h9)
          (by rw[xsa];exact Nat.le_refl _) (by simp[dtags]) (by
           have h1:=pad4_len s;have h3:=hp32.out;simp only[dtags,dataT,xmp,List.map_nil,xfc,List.flatten_nil,xla,List.length_nil,spanB_len]
           omega)
        have hfits:=lhd hfin;generalize spanB f t=S at *;generalize pad4 s=P at *;replace hpd4:=lhd hpd4;replace hby:=lhd hby;replace hen:=lhd hen;replace hz:=lhd hz;clear K2 hb3 y0 y1 y2 y3 z0 hwn hva hlen hpd hun;obtain⟨y0,y1,y2,y3⟩:=K4.out w4 (Below.refl _ _)
        go_wp2_with fail
        go_region_held3 (fun W':World=>W'.cell? ⟨g,0,none⟩=some (.slice Ap p.length cp)/\W'.cell? ⟨g,1,none⟩=some (.int .i64 f)/\W'.cell? ⟨g,2,none⟩=some (.int .i64 t)/\W'.cell? ⟨g,3,none⟩=some (.slice (some ⟨bs,os,none⟩) s.length cs))
         (first | (with_reducible exact K4.out _ hbE) | (with_reducible exact K4.out _ hb9) | (with_reducible exact K4.out _ hb8) | exact K4.out _ (by (repeat (first | exact Below.refl _ _ | (refine bgo ?_ (balloc _ _)) | (refine bgo ?_ (bdrew _)) | (refine bgo ?_ (by assumption))))) | (go_keep;done))
         (first
          | (go_at_call 227;(with_reducible refine (hen.out w9 A8 A9 c8 c9 hb9 (seesB_of s8 nlr h89) s9).mono ?_);rintro e wE ⟨vE,rfl,oE,hbE⟩
             obtain⟨AE,cE,rfl,-,-⟩:=oE.sees.mk_;have hszE:=hb9.size;replace hbE:=bgo (bgo hb9 (balloc w9 _)) hbE)
          | (go_at_call 227;(with_reducible refine (hen.out w8 A8 A9 c8 c9 hb8 s8 (seesB_of s9 nlr h98)).mono ?_);rintro e wE ⟨vE,rfl,oE,hbE⟩
             obtain⟨AE,cE,rfl,-,-⟩:=oE.sees.mk_;have hszE:=hb8.size;replace hbE:=bgo (bgo hb8 (balloc w8 _)) hbE)
          | (go_at_call 263;have _q:=hb9;(with_reducible refine (hpd4.out w9 hb9).mono ?_);rintro e w8 ⟨v8,rfl,o8,h98⟩
             have hb8:=bgo hb9 h98;have s8:=o8.sees;obtain⟨A8,c8,rfl,-,-⟩:=o8.sees.mk_)
          | (go_at_call 263;(with_reducible refine (hpd4.out w4.drew (bdrew w4)).mono ?_);rintro e w8 ⟨v8,rfl,o8,hb8⟩
             replace hb8:=bgo (bdrew w4) hb8;have s8:=o8.sees;obtain⟨A8,c8,rfl,-,-⟩:=o8.sees.mk_)
          | (go_at_call 186;have _q:=hb8;(with_reducible refine (hby.out w8).mono ?_);rintro e w9 ⟨v9,rfl,o9,h89⟩
             have hb9:=bgo hb8 h89;have s9:=o9.sees;obtain⟨A9,c9,rfl,-,-⟩:=o9.sees.mk_)
          | (go_at_call 186;(with_reducible refine (hby.out w4.drew).mono ?_);rintro e w9 ⟨v9,rfl,o9,hb9⟩
             replace hb9:=bgo (bdrew w4) hb9;have s9:=o9.sees;obtain⟨A9,c9,rfl,-,-⟩:=o9.sees.mk_))
        all_goals
         have hfin2:=bgo hfits.out hbE;have hw7:w.heap.size<=w4.heap.size:=(bgoD hal.out hfits.out hgg.out.symm).size;clear y0 y1 y2 y3 K4 hpd4 hby hen
         go_wp2_with fail
         go_returns
         exact denc_ok hC0.out rfl oE (by rw[xsa];omega) (bgoD hal.out hfin2 hgg.out.symm)
       have iz:¬((s.length:Nat):Int)=(z:Int):=by omega
       have hC3:Hid (dencC p f t s=3):=by show _=_;rw[hC4.out,decide_eq_false hz];rfl
       replace hz:=lhd hz;clear K2 hb3 hb4 y0 y1 y2 y3 z0
       go_wp2_with fail
       go_returns
       exact denc_bad hC3.out (by decide) rfl (bgoD hal.out hfin hgg.out.symm)
 have ip:((p.length:Int) != 32)=true:=by simp;omega
 have hC:Hid (dencC p f t s=5):=by show _=_;rw[hd.out,if_neg hp32]
 have ip2:¬((p.length:Int)=32):=by omega
 clear sp ss hd y1 y2 y3 hp32
 go_enter func224,ntmps224
 go_wp2_with fail
 go_returns
 exact denc_bad hC.out (by decide) rfl hal
end Go.Proofs.YtjgepckncogdaaaGreat
