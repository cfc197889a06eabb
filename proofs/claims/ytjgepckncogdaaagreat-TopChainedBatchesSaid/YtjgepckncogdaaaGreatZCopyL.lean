/- Contracts of functions, walks, plain facts. Conditions: those of each theorem. -/
import Derived.Test.YtjgepckncogdaaaGreatVNonce
import Derived.Test.YtjgepckncogdaaaGreatZC2
set_option linter.unusedVariables false
set_option linter.unusedSimpArgs false
set_option maxRecDepth 100000
set_option maxHeartbeats 16000000
namespace Go.Proofs.YtjgepckncogdaaaGreat
open Go Go.RowKit _root_.Go.Proofs.Tryz
attribute [local go_sem ↓] Go.wp_at_zero Go.wp_at_succ
def CopyP (ls:List LinkG) (w:World) (e:Ending) (w':World):Prop:=
 ∃v,e=.returned v/\OwnRF w' w.heap.size 108 v 3 ls.length (linkS ls)/\Below w.heap.size w w'
theorem link_eltsF {w:World} {base:Nat} {v a b c:Value} {t:LinkG} (h1:EltS w v a (.byt t.1)) (h2:EltS w v b (.byt t.2.1)) (h3:EltS w v c (.byt t.2.2)) (f1:From base a) (f2:From base b) (f3:From base c):∀(k:Nat) (s:Spec),[Spec.byt t.1,.byt t.2.1,.byt t.2.2][k]?=some s->∃y,[a,b,c][k]?=some y/\EltS w v y s/\From base y:=by
 intro k s h
 match k,h with
 | 0,h=>cases h;exact⟨_,rfl,h1,f1⟩
 | 1,h=>cases h;exact⟨_,rfl,h2,f2⟩
 | 2,h=>cases h;exact⟨_,rfl,h3,f3⟩
 | k+3,h=>simp at h
theorem ccopy_any (B:Nat) (u:Value) (ls:List LinkG) (w:World) (hu:SeesR w B u 3 ls.length (linkS ls)) (hB:B<=w.heap.size) (hn:ls.length<=1000) (hl:∀t∈ls,t.1.length<=1048576/\t.2.1.length<=1048576/\t.2.2.length<=1048576) :
 Calls prog 132 #[u] w (CopyP ls w):=by
 obtain⟨A,c,rfl,-,-⟩:=hu.mk_;obtain⟨ti,hti,htz,hts,htb⟩:=info_parts link_infoC;replace hti:=lhd hti;replace htz:=lhd htz;replace hts:=lhd hts;replace htb:=lhd htb;replace hu:=lhd (hu.more hB);replace hl:=lhd hl
 go_enter func132,ntmps132
 go_wp2_with fail
 go_loopw [3,8] (fun r t wr=>∃k:Nat,k<=ls.length/\t=.int .i64 k/\Hid (OwnRF wr w.heap.size 108 r 3 k (linkS (ls.take k)))/\Hid (Below w.heap.size w wr)) (fun _ t _=>ls.length - (intOf t).toNat)
 case atStart=>exact⟨0,by omega,rfl,OwnRF.nil _ _ _ _,Below.refl _ _⟩
 case round=>
  obtain⟨k,hk,rfl,ho,hb⟩:=hrel;obtain⟨Ar,cr,rfl,-,-⟩:=ho.out.own.sees.mk_
  by_cases hlt:k<ls.length
  ·have i1:(k:Int)<(ls.length:Int):=by omega
   have i2:(0:Int)<=(k:Int):=by omega
   have hdk:ls[k]?=some (linkT ls k):=by rw[linkT,xgd,xge hlt];rfl
   have hst:Hid _:=lhd (linkS_take ls k _ hdk);obtain⟨b,o,A1,c1,A2,c2,A3,c3,eA,hbB,z1,s1,z2,s2,z3,s3⟩:=link_at ((hu.out.below hb.out).more hb.out.size) k (linkT ls k) hdk;subst eA;obtain⟨l1,l2,l3⟩:=hl.out _ (List.mem_of_getElem? hdk);clear hdk;generalize linkT ls k=t at *;have hb5:=balloc wr (.cells #[.slice A1 t.1.length c1,.slice A2 t.2.1.length c2,.slice A3 t.2.2.length c3] 108);have x5:=Box.new wr 108 [.slice A1 t.1.length c1,.slice A2 t.2.1.length c2,.slice A3 t.2.2.length c3];change Box (wr.alloc (.cells #[.slice A1 t.1.length c1,.slice A2 t.2.1.length c2,.slice A3 t.2.2.length c3] 108)) _ _ _ at x5;replace s1:=lhd (seesB_of s1 nlr hb5);replace s2:=lhd (seesB_of s2 nlr hb5);replace s3:=lhd (seesB_of s3 nlr hb5);have hlo:Hid (∀j,(Value.slice Ar k cr).ownBlock=some j->j<wr.heap.size):=fun j hj=>(ho.out.own.lt j hj).2
   have hz5:=lhd hb5.size;replace ho:=lhd (ho.out.below hb5);replace hb:=lhd (bgo hb.out hb5);replace x5:=lhd x5;clear hb5 hbB;replace l1:=lhd l1;replace l2:=lhd l2;replace l3:=lhd l3
   go_upto_region 5 with (fail)
   clear z1 z2 z3;generalize wr.alloc (.cells #[.slice A1 t.1.length c1,.slice A2 t.2.1.length c2,.slice A3 t.2.2.length c3] 108)=W0 at *;generalize wr.heap.size=g5 at *;have K:Hid (∀W,Below W0.heap.size W0 W->W.cell? ⟨g5,0,none⟩=some (.slice A1 t.1.length c1)/\W.cell? ⟨g5,1,none⟩=some (.slice A2 t.2.1.length c2)/\W.cell? ⟨g5,2,none⟩=some (.slice A3 t.2.2.length c3)):=fun W hW=>⟨(x5.out.below hW).cell 0,(x5.out.below hW).cell 1,(x5.out.below hW).cell 2⟩
   obtain⟨k1,k2,k3⟩:=K.out W0 (Below.refl _ _);have hc1:Hid (∀W,Below W0.heap.size W0 W->Calls prog 92 #[.slice A1 t.1.length c1] W (Gives t.1 W)):=fun W hW=>bclone_any W.heap.size _ t.1 W (seesB_of s1.out nlr hW) nlr (by have:=l1.out;omega)
   have hc2:Hid (∀W,Below W0.heap.size W0 W->Calls prog 92 #[.slice A2 t.2.1.length c2] W (Gives t.2.1 W)):=fun W hW=>bclone_any W.heap.size _ t.2.1 W (seesB_of s2.out nlr hW) nlr (by have:=l2.out;omega)
   have hc3:Hid (∀W,Below W0.heap.size W0 W->Calls prog 92 #[.slice A3 t.2.2.length c3] W (Gives t.2.2 W)):=fun W hW=>bclone_any W.heap.size _ t.2.2 W (seesB_of s3.out nlr hW) nlr (by have:=l3.out;omega)
   clear s1 s2 s3 l1 l2 l3;have hcr:Hid (k+1<=1048576):=by show _<=_;omega
   have hlt5:∀j,(Value.slice Ar k cr).ownBlock=some j->j<W0.heap.size:=fun j hj=>by have:=hlo.out j hj;have:=hz5.out;omega
   have hne5:Hid (∀j,(Value.slice Ar k cr).ownBlock=some j->j≠g5):=fun j hj=>by have:=hlo.out j hj;omega
   go_region_held3 (fun W':World=>W'.cell? ⟨g5,0,none⟩=some (.slice A1 t.1.length c1)/\W'.cell? ⟨g5,1,none⟩=some (.slice A2 t.2.1.length c2)/\W'.cell? ⟨g5,2,none⟩=some (.slice A3 t.2.2.length c3))
    (first | exact⟨kk1,kk2,kk3⟩ | (with_reducible exact K.out _ (by (repeat (first | exact Below.refl _ _ | (refine bgo ?_ (balloc _ _)) | (refine bgo ?_ (bdrew _)) | (refine bgo ?_ (by assumption)))))) | (go_keep;done))
    (first
     | (refine step_appRF (by rfl) _ _ 104 108 underlying104 (by rfl) ti _ 3 72 hti.out htz.out hts.out htb.out (by rfl) (by omega) (by omega) w.heap.size _ k _ (by rfl) ho2.out _ _ 1 _ [.byt t.1,.byt t.2.1,.byt t.2.2] (by rfl) hrec.out (by rfl) hel.out hcr.out hb3.out.size ?_;intro v' w' hW2 hb4 hg4
        obtain⟨kk1,kk2,kk3,-,-,-⟩:=box3_cells (show Box w' g5 108 [.slice A1 t.1.length c1,.slice A2 t.2.1.length c2,.slice A3 t.2.2.length c3] from (hg4.block g5 x5a.lt (fun e=>hne5.out _ e.symm rfl)).trans x5a))
     | (go_at_call 92;have _q:=m8;(with_reducible refine (hc3.out _ (by (repeat (first | exact Below.refl _ _ | (refine bgo ?_ (balloc _ _)) | (refine bgo ?_ (bdrew _)) | (refine bgo ?_ (by assumption)))))).mono ?_);rintro e w9 ⟨v9,rfl,o9,hb9⟩
        obtain⟨B3,d3,rfl,-,-⟩:=o9.sees.mk_;have hb79:=bgo hb8 hb9;have hb09:=bgo hb07 hb79;have hal:=balloc w9 (.cells #[.slice B1 t.1.length d1,.slice B2 t.2.1.length d2,.slice B3 t.2.2.length d3] 108);have hrec:Hid (Sees (w9.alloc (.cells #[.slice B1 t.1.length d1,.slice B2 t.2.1.length d2,.slice B3 t.2.2.length d3] 108)) (w9.heap.size+1) (.slice (some ⟨w9.heap.size,0,none⟩) 1 1) 3 1 [.slice B1 t.1.length d1,.slice B2 t.2.1.length d2,.slice B3 t.2.2.length d3]):=rec_lit w9 108 [.slice B1 t.1.length d1,.slice B2 t.2.1.length d2,.slice B3 t.2.2.length d3];have ho2:=lhd (ho.out.below (bgo hb09 hal));have x5a:=x5.out.below (bgo hb09 hal);have hel:=lhd (link_eltsF (base:=w.heap.size) (t:=t) (EltS.of_from (v:=.slice Ar k cr) (seesB_of m7 nlr (bgo hb79 hal)) (o7.from.mono hb07s) hlt5) (EltS.of_from (seesB_of m8 nlr (bgo hb9 hal)) (o8.from.mono (bgo hb07 (Below.refl _ _)).size) hlt5) (EltS.of_from (seesB_of o9.sees nlr hal) (o9.from.mono (bgo hb07 hb8).size) hlt5) (o7.from.mono (Nat.le_trans hb.out.size hb07s)) (o8.from.mono (Nat.le_trans hb.out.size (bgo hb07 (Below.refl _ _)).size)) (o9.from.mono (Nat.le_trans hb.out.size (bgo hb07 hb8).size)));have hb3:=lhd (bgo (bgo hb.out hb09) hal);clear hal)
     | (go_at_call 92;have _q:=m7;(with_reducible refine (hc2.out _ (by (repeat (first | exact Below.refl _ _ | (refine bgo ?_ (balloc _ _)) | (refine bgo ?_ (bdrew _)) | (refine bgo ?_ (by assumption)))))).mono ?_);rintro e w8 ⟨v8,rfl,o8,hb8⟩
        obtain⟨B2,d2,rfl,-,-⟩:=o8.sees.mk_;have m8:=o8.sees)
     | (go_at_call 92;(with_reducible refine (hc1.out W0.drew (bdrew W0)).mono ?_);rintro e w7 ⟨v7,rfl,o7,hb7⟩
        obtain⟨B1,d1,rfl,-,-⟩:=o7.sees.mk_;have hb07s:=(bdrew W0).size;have hb07:=bgo (bdrew W0) hb7;have m7:=o7.sees)
     | (go_at_call 92;(with_reducible refine (hc1.out W0 (Below.refl _ _)).mono ?_);rintro e w7 ⟨v7,rfl,o7,hb7⟩
        obtain⟨B1,d1,rfl,-,-⟩:=o7.sees.mk_;have hb07s:=Nat.le_refl W0.heap.size;have hb07:=hb7;have m7:=o7.sees))
   all_goals
    replace hW2:Hid (OwnRF w' w.heap.size 108 v' 3 (k+1) (linkS (ls.take (k+1)))):=by show OwnRF _ _ _ _ _ _ _;rw[hst.out];exact hW2
    have hb4:=lhd (hb3.out.trans hb4)
    go_wp2_with fail
    go_roundw
    case rel=>first | exact⟨k+1,by omega,by go_num,hW2,hb4⟩ | ((repeat apply Exists.intro);exact⟨⟨k+1,by omega,by go_num,hW2,hb4⟩,rfl⟩)
    case measure=>simp[intOf];omega
  obtain rfl:k=ls.length:=by omega
  have i1:¬(ls.length:Int)<(ls.length:Int):=by omega
  have ho':=ho.out;rw[xtl nlr] at ho';replace ho':=lhd ho'
  go_wp2_with fail
  go_returns
  exact⟨_,rfl,ho'.out,hb.out⟩
end Go.Proofs.YtjgepckncogdaaaGreat
