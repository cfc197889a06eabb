/- Contracts of functions, walks, plain facts. Conditions: those of each theorem. -/
import Derived.Test.YtjgepckncogdaaaGreatVNonce
import Derived.Test.YtjgepckncogdaaaGreatK28
set_option linter.unusedVariables false
set_option linter.unusedSimpArgs false
set_option maxRecDepth 100000
set_option maxHeartbeats 16000000
namespace Go.Proofs.YtjgepckncogdaaaGreat
open Go Go.RowKit _root_.Go.Proofs.Tryz
attribute [local go_sem ↓] Go.wp_at_zero Go.wp_at_succ
def LinkP (t:LinkG) (w:World) (e:Ending) (w':World):Prop:=
 ∃v1 v2 v3,e=.returned (.agg #[v1,v2,v3])/\SeesB w' w'.heap.size v1 t.1/\SeesB w' w'.heap.size v2 t.2.1/\SeesB w' w'.heap.size v3 t.2.2/\From w.heap.size v1/\From w.heap.size v2/\From w.heap.size v3/\Below w.heap.size w w'
theorem boxn {w:World} {g:Nat} {T:TypeId} {xs:List Value} (h:g=w.heap.size):Box (w.alloc (.cells xs.toArray T)) g T xs:=by subst h;exact Box.new w T xs
theorem noB_nils:NoByte [Value.slice none 0 0,.slice none 0 0,.slice none 0 0]:=by
 intro x hx n e;simp only[List.mem_cons,List.not_mem_nil,or_false] at hx;rcases hx with rfl|rfl|rfl<;>cases e
theorem link_sees {W:World} {g:Nat} {T:TypeId} {u:Value} {l:Bs} (h:Box W g T [.slice none 0 0,.slice none 0 0,.slice none 0 0]) (x y z:Value) (hs:SeesB W W.heap.size u l):SeesB (((W.setCell ⟨g,0,none⟩ x).setCell ⟨g,1,none⟩ y).setCell ⟨g,2,none⟩ z) (((W.setCell ⟨g,0,none⟩ x).setCell ⟨g,1,none⟩ y).setCell ⟨g,2,none⟩ z).heap.size u l:=by
 have hz:(((W.setCell ⟨g,0,none⟩ x).setCell ⟨g,1,none⟩ y).setCell ⟨g,2,none⟩ z).heap.size=W.heap.size:=by simp[World.setCell]
 rw[hz];exact hs.over nlr h noB_nils (ggo (ggo (setCell_grown W g 0 x) (setCell_grown _ g 1 y)) (setCell_grown _ g 2 z))
theorem box_lset3 {W:World} {g:Nat} {T:TypeId} {a b c:Value} (h:Box W g T [a,b,c]) (x y z:Value):Box (((W.setCell ⟨g,0,none⟩ x).setCell ⟨g,1,none⟩ y).setCell ⟨g,2,none⟩ z) g T [x,y,z]:=by
 have k:=((h.set 0 x).set 1 y).set 2 z
 simpa only [xsz,xss] using k
theorem link_done {t:LinkG} {w W:World} {g:Nat} {T:TypeId} {v1 v2 v3:Value} (x:Box W g T [.slice none 0 0,.slice none 0 0,.slice none 0 0]) (hg:w.heap.size<=g) (s1:SeesB W W.heap.size v1 t.1) (s2:SeesB W W.heap.size v2 t.2.1) (s3:SeesB W W.heap.size v3 t.2.2) (f1:From w.heap.size v1) (f2:From w.heap.size v2) (f3:From w.heap.size v3) (hb:Below w.heap.size w W) :
 LinkP t w (.returned (.agg #[v1,v2,v3])) (((W.setCell ⟨g,0,none⟩ v1).setCell ⟨g,1,none⟩ v2).setCell ⟨g,2,none⟩ v3):=
 ⟨v1,v2,v3,rfl,link_sees x _ _ _ s1,link_sees x _ _ _ s2,link_sees x _ _ _ s3,f1,f2,f3,((hb.setCell (p:=⟨g,0,none⟩) hg _).setCell (p:=⟨g,1,none⟩) hg _).setCell (p:=⟨g,2,none⟩) hg _⟩
theorem rlcopy_any (t:LinkG) (v1 v2 v3:Value) (w:World) (h1:SeesB w w.heap.size v1 t.1) (h2:SeesB w w.heap.size v2 t.2.1) (h3:SeesB w w.heap.size v3 t.2.2) (l1:t.1.length<=1048576) (l2:t.2.1.length<=1048576) (l3:t.2.2.length<=1048576) :
 Calls prog 164 #[.agg #[v1,v2,v3]] w (LinkP t w):=by
 obtain⟨p,b,a⟩:=t;dsimp only at *;obtain⟨A1,c1,rfl,-,-⟩:=h1.mk_;obtain⟨A2,c2,rfl,-,-⟩:=h2.mk_;obtain⟨A3,c3,rfl,-,-⟩:=h3.mk_;have hb:=bgo (balloc w (.cells #[.slice A1 p.length c1,.slice A2 b.length c2,.slice A3 a.length c3] 108)) (balloc _ (.cells #[.slice none 0 0,.slice none 0 0,.slice none 0 0] 108));have x1:=(Box.new w 108 [.slice A1 p.length c1,.slice A2 b.length c2,.slice A3 a.length c3]).below (balloc _ (.cells #[.slice none 0 0,.slice none 0 0,.slice none 0 0] 108));have x2:=Box.new (w.alloc (.cells #[.slice A1 p.length c1,.slice A2 b.length c2,.slice A3 a.length c3] 108)) 108 [.slice none 0 0,.slice none 0 0,.slice none 0 0];rw[xsa] at x2;change Box ((w.alloc (.cells #[.slice A1 p.length c1,.slice A2 b.length c2,.slice A3 a.length c3] 108)).alloc (.cells #[.slice none 0 0,.slice none 0 0,.slice none 0 0] 108)) _ _ _ at x1 x2;replace h1:=lhd (seesB_of h1 nlr hb);replace h2:=lhd (seesB_of h2 nlr hb);replace h3:=lhd (seesB_of h3 nlr hb);replace l1:=lhd l1;replace l2:=lhd l2;replace l3:=lhd l3;have hs2:=lhd hb.size;replace hb:=lhd hb;have hg2:Hid (w.heap.size<w.heap.size+1):=by show _<_;omega
 go_enter func164,ntmps164
 go_upto_region 1 with (fail)
 generalize (w.alloc (.cells #[.slice A1 p.length c1,.slice A2 b.length c2,.slice A3 a.length c3] 108)).alloc (.cells #[.slice none 0 0,.slice none 0 0,.slice none 0 0] 108)=W0 at *;have hw2:Hid (w.heap.size<=w.heap.size+1):=by show _<=_;omega
 generalize w.heap.size+1=g2 at x2 hg2 hw2 ⊢;generalize w.heap.size=g1 at x1 hg2 ⊢;replace x2:=lhd x2;obtain⟨k1,k2,k3,-,-,-⟩:=box3_cells x1;have K:Hid (∀W,Below W0.heap.size W0 W->W.cell? ⟨g1,0,none⟩=some (.slice A1 p.length c1)/\W.cell? ⟨g1,1,none⟩=some (.slice A2 b.length c2)/\W.cell? ⟨g1,2,none⟩=some (.slice A3 a.length c3)):=fun W hW=>⟨(x1.below hW).cell 0,(x1.below hW).cell 1,(x1.below hW).cell 2⟩
 have K3:Hid (∀W (y0 y1 y2:Value),Below W0.heap.size W0 W->(((W.setCell ⟨g2,0,none⟩ y0).setCell ⟨g2,1,none⟩ y1).setCell ⟨g2,2,none⟩ y2).cell? ⟨g1,0,none⟩=some (.slice A1 p.length c1)/\(((W.setCell ⟨g2,0,none⟩ y0).setCell ⟨g2,1,none⟩ y1).setCell ⟨g2,2,none⟩ y2).cell? ⟨g1,1,none⟩=some (.slice A2 b.length c2)/\(((W.setCell ⟨g2,0,none⟩ y0).setCell ⟨g2,1,none⟩ y1).setCell ⟨g2,2,none⟩ y2).cell? ⟨g1,2,none⟩=some (.slice A3 a.length c3)):=fun W y0 y1 y2 hW=>by
  have n1:g1≠g2:=by have:=hg2.out;omega
  have b1:=(((x1.below hW).other (j:=0) (v:=y0) n1).other (j:=1) (v:=y1) n1).other (j:=2) (v:=y2) n1;exact⟨b1.cell 0,b1.cell 1,b1.cell 2⟩
 clear x1
 go_region_held3 (fun W':World=>W'.cell? ⟨g1,0,none⟩=some (.slice A1 p.length c1)/\W'.cell? ⟨g1,1,none⟩=some (.slice A2 b.length c2)/\W'.cell? ⟨g1,2,none⟩=some (.slice A3 a.length c3))
  (first | (with_reducible exact K3.out _ _ _ _ (by (repeat (first | exact Below.refl _ _ | (refine bgo ?_ (balloc _ _)) | (refine bgo ?_ (bdrew _)) | (refine bgo ?_ (by assumption)))))) | (with_reducible exact K.out _ (by (repeat (first | exact Below.refl _ _ | (refine bgo ?_ (balloc _ _)) | (refine bgo ?_ (bdrew _)) | (refine bgo ?_ (by assumption)))))) | (go_keep;done))
  (first
   | (go_at_call 85;have _q:=m8;(with_reducible refine (rjone (v:=.slice A3 a.length c3) (l:=a) (by (repeat (first | exact boxn (by with_reducible rfl) | exact boxn (by simp only[xsa];done) | (refine Box.below ?_ (balloc _ _)) | (refine Box.below ?_ (bdrew _)) | (refine Box.below ?_ (by assumption))))) (seesB_of h3.out nlr (by (repeat (first | exact Below.refl _ _ | (refine bgo ?_ (balloc _ _)) | (refine bgo ?_ (bdrew _)) | (refine bgo ?_ (by assumption)))))) l3.out).mono ?_);rintro e w9 ⟨v9,rfl,o9,hb9⟩
      obtain⟨B3,d3,rfl,-,-⟩:=o9.sees.mk_;have m9:=o9.sees;have x2r:=x2.out.below (show Below W0.heap.size W0 w9 by (repeat (first | exact Below.refl _ _ | (refine bgo ?_ (balloc _ _)) | (refine bgo ?_ (bdrew _)) | (refine bgo ?_ (by assumption)))));obtain⟨y0,y1,y2,f0,f1,f2⟩:=box3_cells x2r)
   | (go_at_call 85;have _q:=m7;(with_reducible refine (rjone (v:=.slice A2 b.length c2) (l:=b) (by (repeat (first | exact boxn (by with_reducible rfl) | exact boxn (by simp only[xsa];done) | (refine Box.below ?_ (balloc _ _)) | (refine Box.below ?_ (bdrew _)) | (refine Box.below ?_ (by assumption))))) (seesB_of h2.out nlr (by (repeat (first | exact Below.refl _ _ | (refine bgo ?_ (balloc _ _)) | (refine bgo ?_ (bdrew _)) | (refine bgo ?_ (by assumption)))))) l2.out).mono ?_);rintro e w8 ⟨v8,rfl,o8,hb8⟩
      obtain⟨B2,d2,rfl,-,-⟩:=o8.sees.mk_;have m8:=o8.sees)
   | (go_at_call 85;(with_reducible refine (rjone (v:=.slice A1 p.length c1) (l:=p) (by (repeat (first | exact boxn (by with_reducible rfl) | exact boxn (by simp only[xsa];done) | (refine Box.below ?_ (balloc _ _)) | (refine Box.below ?_ (bdrew _)) | (refine Box.below ?_ (by assumption))))) (seesB_of h1.out nlr (by (repeat (first | exact Below.refl _ _ | (refine bgo ?_ (balloc _ _)) | (refine bgo ?_ (bdrew _)) | (refine bgo ?_ (by assumption)))))) l1.out).mono ?_);rintro e w7 ⟨v7,rfl,o7,hb7⟩
      obtain⟨B1,d1,rfl,-,-⟩:=o7.sees.mk_;have m7:=o7.sees))
 all_goals
  go_wp2_with fail
  have kd:=lhd (link_done (t:=(p,b,a)) x2r hw2.out (seesB_of m7 nlr (by (repeat (first | exact Below.refl _ _ | (refine bgo ?_ (balloc _ _)) | (refine bgo ?_ (bdrew _)) | (refine bgo ?_ (by assumption)))))) (seesB_of m8 nlr (by (repeat (first | exact Below.refl _ _ | (refine bgo ?_ (balloc _ _)) | (refine bgo ?_ (bdrew _)) | (refine bgo ?_ (by assumption)))))) m9 (o7.from.mono (bgo hb.out (by (repeat (first | exact Below.refl _ _ | (refine bgo ?_ (balloc _ _)) | (refine bgo ?_ (bdrew _)) | (refine bgo ?_ (by assumption)))))).size) (o8.from.mono (bgo hb.out (by (repeat (first | exact Below.refl _ _ | (refine bgo ?_ (balloc _ _)) | (refine bgo ?_ (bdrew _)) | (refine bgo ?_ (by assumption)))))).size) (o9.from.mono (bgo hb.out (by (repeat (first | exact Below.refl _ _ | (refine bgo ?_ (balloc _ _)) | (refine bgo ?_ (bdrew _)) | (refine bgo ?_ (by assumption)))))).size) (bgo hb.out (by (repeat (first | exact Below.refl _ _ | (refine bgo ?_ (balloc _ _)) | (refine bgo ?_ (bdrew _)) | (refine bgo ?_ (by assumption)))))));have k:=box_lset3 x2r (.slice B1 p.length d1) (.slice B2 b.length d2) (.slice B3 a.length d3);clear y0 y1 y2 f0 f1 f2 x2r;generalize ((w9.setCell ⟨g2,0,none⟩ (.slice B1 p.length d1)).setCell ⟨g2,1,none⟩ (.slice B2 b.length d2)).setCell ⟨g2,2,none⟩ (.slice B3 a.length d3)=W9 at *;obtain⟨z0,z1,z2,-,-,-⟩:=box3_cells k;refine bodyPost_ret (v:=.agg #[.slice B1 p.length d1,.slice B2 b.length d2,.slice B3 a.length d3]) (by simp[results,results164,go_sem,z0,z1,z2]) rfl ?_
  exact kd.out
end Go.Proofs.YtjgepckncogdaaaGreat
