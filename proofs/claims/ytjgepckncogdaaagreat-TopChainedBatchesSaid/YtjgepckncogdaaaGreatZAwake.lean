/- Contracts of functions, walks, plain facts. Conditions: those of each theorem. -/
import Derived.Test.YtjgepckncogdaaaGreatZEraT
set_option linter.unusedVariables false
set_option linter.unusedSimpArgs false
set_option maxRecDepth 100000
set_option maxHeartbeats 16000000
namespace Go.Proofs.YtjgepckncogdaaaGreat
open Go Go.RowKit _root_.Go.Proofs.Tryz
attribute [local go_sem ↓] Go.wp_at_zero Go.wp_at_succ
theorem only_one (lo hi a:Int) (h0:0<=a) (h1:a<18446744073709551616) (hv:vS lo hi=true) (hl:elast_ hi a - efirst_ lo a=0) (w:World) :
 Calls prog 118 #[.agg #[.int .i64 lo,.int .i64 hi],.int .u64 a] w fun e w'=>e=.returned (.tuple #[.agg #[.int .i64 (elo_ (efirst_ lo a) a),.int .i64 (ehi_ (efirst_ lo a) a)],.int .i64 0])/\Below w.heap.size w w':=by
 have hU:=fun W=>eunfold_ok lo hi a h0 h1 hv (by omega) W
 rw[hl] at hU;have e2:ecellsOf (efirst_ lo a) a ((0:Int)+1).toNat=[.int .i64 (elo_ (efirst_ lo a) a),.int .i64 (ehi_ (efirst_ lo a) a)]:=by
  show ecellsOf (efirst_ lo a) a 1=_;simp[ecellsOf]
 rw[e2,show ((0:Int)+1).toNat=1 from rfl] at hU;generalize elo_ (efirst_ lo a) a=x at *;generalize ehi_ (efirst_ lo a) a=y at *;replace hU:=lhd hU;clear hv hl e2
 go_enter func118,ntmps118
 go_wp2_with fail
 refine (hU.out _).mono ?_;rintro e w1 ⟨v,rfl,hown,hb1⟩;obtain⟨g,cap,rfl,hg,hlt,hc1,hc2,hcell⟩:=eown_form hown (by decide);have c0:=hcell 0 _ rfl;have c1:=hcell 1 _ rfl;clear hcell hown;have x3:=Box.new (w.alloc (.cells #[.int .i64 lo,.int .i64 hi] 24)) 24 [.int .i64 0,.int .i64 0];rw[xsa] at x3;change Box ((w.alloc (.cells #[.int .i64 lo,.int .i64 hi] 24)).alloc (.cells #[.int .i64 0,.int .i64 0] 24)) _ _ _ at x3;replace x3:=x3.below hb1;obtain⟨d0,d1,d2,d3⟩:=box2_cells x3;have hb0:=bgo (balloc w (.cells #[.int .i64 lo,.int .i64 hi] 24)) (balloc _ (.cells #[.int .i64 0,.int .i64 0] 24));have hb2:=lhd (((bgo hb0 hb1).setCell (p:=⟨w.heap.size+1,0,none⟩) (by simp) (.int .i64 x)).setCell (p:=⟨w.heap.size+1,1,none⟩) (by simp) (.int .i64 y));have x4:=(x3.set 0 (.int .i64 x)).set 1 (.int .i64 y);simp only[xsz,xss] at x4;clear hb0 hb1 hU x3;generalize hg2:w.heap.size+1=g2 at *;dsimp only
 go_wp2_with fail
 generalize (w1.setCell ⟨g2,0,none⟩ (.int .i64 x)).setCell ⟨g2,1,none⟩ (.int .i64 y)=W3 at *;have z0:W3.cell? ⟨g2,0,none⟩=some (.int .i64 x):=x4.cell 0;have z1:W3.cell? ⟨g2,1,none⟩=some (.int .i64 y):=x4.cell 1;refine bodyPost_ret (v:=.tuple #[.agg #[.int .i64 x,.int .i64 y],.int .i64 0]) (by simp[results,results118,go_sem,z0,z1]) rfl ?_;exact⟨rfl,hb2.out⟩
theorem mag_c (w:World):Calls prog 281 #[.int .i64 4] w fun e w'=>e=.returned (.int .u64 4)/\w'=w:=by
 go_enter func281,ntmps281
 go_wp2_with fail
 go_ret
 exact⟨rfl,rfl⟩
theorem div_c (w:World):Calls prog 282 #[.int .u64 0,.int .u64 4000000000,.int .u64 1000000000] w fun e w'=>e=.returned (.tuple #[.int .u64 4,.int .u64 0])/\Below w.heap.size w w':=by
 go_enter func282,ntmps282
 go_wp2_with fail
 go_quiet (fail)
 go_wp2_with fail
 go_ret2
 refine⟨?_,below_drewN (Below.refl _ _) _⟩
 first | kernel_rfl | simp | decide
theorem quot_c (w:World) (up:Bool):Calls prog 251 #[.int .i64 4,.int .i64 1000000000,.int .i64 1000000000,.bool up] w fun e w'=>e=.returned (.int .i64 4)/\Below w.heap.size w w':=by
 cases up
 all_goals
  go_enter func251,ntmps251
  go_wp2_with fail
  refine (mag_c _).mono ?_;rintro e w1 ⟨rfl,rfl⟩;dsimp only
  go_wp2_with fail
  refine (Tryz.bits_Mul64 4 1000000000 (by omega) (by omega) _).mono ?_;rintro e w1 ⟨rfl,rfl⟩;dsimp only
  go_wp2_with fail
  refine (div_c _).mono ?_;rintro e w2 ⟨rfl,hb⟩;dsimp only
  go_wp2_with fail
  go_ret
  exact⟨rfl,hb⟩
theorem in_c (w:World):Calls prog 250 #[.int .i64 4,.int .i64 0] w fun e w'=>e=.returned (.bool true)/\w'=w:=by
 have hb:∀W,Calls prog 279 #[.int .i64 0] W fun e w'=>e=.returned (.bool true)/\w'=W:=fun W=>by
  go_enter func279,ntmps279
  go_wp2_with fail
  go_ret
  exact⟨rfl,rfl⟩
 go_enter func250,ntmps250
 go_wp2_with fail
 refine (hb _).mono ?_;rintro e w1 ⟨rfl,rfl⟩;dsimp only
 go_wp2_with fail
 go_ret
 exact⟨rfl,rfl⟩
theorem elapsed_c (w:World):Calls prog 191 #[.int .i64 4,.int .i64 0] w fun e w'=>e=.returned (.tuple #[.agg #[.int .i64 4,.int .i64 4],.int .i64 0])/\Below w.heap.size w w':=by
 go_enter func191,ntmps191
 go_wp2_with fail
 refine (in_c _).mono ?_;rintro e w1 ⟨rfl,rfl⟩;dsimp only
 go_wp2_with fail
 have x2:=Box.new w 24 [.int .i64 0,.int .i64 0];change Box (w.alloc (.cells #[.int .i64 0,.int .i64 0] 24)) _ _ _ at x2;have hal:=balloc w (.cells #[.int .i64 0,.int .i64 0] 24);generalize hW:w.alloc (.cells #[.int .i64 0,.int .i64 0] 24)=W0 at *;generalize hg:w.heap.size=g at x2 ⊢;refine (quot_c _ _).mono ?_;rintro e w2 ⟨rfl,hb2⟩;dsimp only
 go_wp2_with fail
 refine (quot_c _ _).mono ?_;rintro e w3 ⟨rfl,hb3⟩;replace x2:=(x2.below hb2).below hb3;obtain⟨d0,d1,d2,d3⟩:=box2_cells x2;dsimp only
 go_wp2_with fail
 have hb:=lhd (((bgo hal (bgo hb2 hb3)).setCell (p:=⟨g,0,none⟩) (Nat.le_of_eq hg) (.int .i64 4)).setCell (p:=⟨g,1,none⟩) (Nat.le_of_eq hg) (.int .i64 4));have x4:=(x2.set 0 (.int .i64 4)).set 1 (.int .i64 4);simp only[xsz,xss] at x4;generalize (w3.setCell ⟨g,0,none⟩ (.int .i64 4)).setCell ⟨g,1,none⟩ (.int .i64 4)=W3 at *;have z0:W3.cell? ⟨g,0,none⟩=some (.int .i64 4):=x4.cell 0;have z1:W3.cell? ⟨g,1,none⟩=some (.int .i64 4):=x4.cell 1;refine bodyPost_ret (v:=.tuple #[.agg #[.int .i64 4,.int .i64 4],.int .i64 0]) (by simp[results,results191,go_sem,z0,z1]) rfl ?_;exact⟨rfl,hb.out⟩
theorem echeck_c (w:World):Calls prog 190 #[.agg #[.int .i64 5,.int .i64 4089446400000000,.int .i64 4089446400000000,.int .i64 9,.int .i64 0]] w fun e w'=>e=.returned (.int .i64 0)/\Below w.heap.size w w':=by
 have hv:=lhd (fun (t:Int) (h:vT t=true) W=>(show Calls prog 176 #[.int .i64 t] W fun e w'=>e=.returned (.bool true)/\W=w' by have:=validt_any t W;rw[h] at this;exact this))
 go_enter func190,ntmps190
 go_wp2_with fail
 have hal:=bgo (balloc w (.cells #[.int .i64 5,.int .i64 4089446400000000,.int .i64 4089446400000000,.int .i64 9,.int .i64 0] 166)) (balloc _ (.cells #[.int .i64 5,.int .i64 4089446400000000,.int .i64 4089446400000000,.int .i64 9] 3));have x2:=(Box.new w 166 [.int .i64 5,.int .i64 4089446400000000,.int .i64 4089446400000000,.int .i64 9,.int .i64 0]).below (balloc _ (.cells #[.int .i64 5,.int .i64 4089446400000000,.int .i64 4089446400000000,.int .i64 9] 3));have x3:=Box.new (w.alloc (.cells #[.int .i64 5,.int .i64 4089446400000000,.int .i64 4089446400000000,.int .i64 9,.int .i64 0] 166)) 3 [.int .i64 5,.int .i64 4089446400000000,.int .i64 4089446400000000,.int .i64 9];rw[xsa] at x3;change Box ((w.alloc (.cells #[.int .i64 5,.int .i64 4089446400000000,.int .i64 4089446400000000,.int .i64 9,.int .i64 0] 166)).alloc (.cells #[.int .i64 5,.int .i64 4089446400000000,.int .i64 4089446400000000,.int .i64 9] 3)) _ _ _ at x2 x3;generalize (w.alloc (.cells #[.int .i64 5,.int .i64 4089446400000000,.int .i64 4089446400000000,.int .i64 9,.int .i64 0] 166)).alloc (.cells #[.int .i64 5,.int .i64 4089446400000000,.int .i64 4089446400000000,.int .i64 9] 3)=W0 at *;replace hal:=lhd hal;generalize w.heap.size+1=g3 at *;generalize hg2:w.heap.size=g2 at x2 ⊢;have a0:W0.cell? ⟨g2,0,none⟩=some (.int .i64 5):=x2.cell 0;have a1:W0.cell? ⟨g2,1,none⟩=some (.int .i64 4089446400000000):=x2.cell 1;have a2:W0.cell? ⟨g2,2,none⟩=some (.int .i64 4089446400000000):=x2.cell 2
 have a3:W0.cell? ⟨g2,3,none⟩=some (.int .i64 9):=x2.cell 3;have a4:W0.cell? ⟨g2,4,none⟩=some (.int .i64 0):=x2.cell 4;have b0:W0.cell? ⟨g3,0,none⟩=some (.int .i64 5):=x3.cell 0;have b1:W0.cell? ⟨g3,1,none⟩=some (.int .i64 4089446400000000):=x3.cell 1;have b2:W0.cell? ⟨g3,2,none⟩=some (.int .i64 4089446400000000):=x3.cell 2;have b3:W0.cell? ⟨g3,3,none⟩=some (.int .i64 9):=x3.cell 3;clear x2 x3
 go_loopw [15] (fun t wr=>∃k:Nat,k<=4/\t=.int .i64 k/\wr=W0) (fun t _=>4 - (intOf t).toNat)
 case atStart=>exact⟨0,by omega,rfl,rfl⟩
 case round=>
  obtain⟨k,hk,rfl,rfl⟩:=hrel
  by_cases h:k=4
  ·subst h
   go_wp2_with fail
   go_ret
   exact⟨rfl,hal.out⟩
  rcases (show k=0\/k=1\/k=2\/k=3 by omega) with rfl | rfl | rfl | rfl
  all_goals
   go_wp2_with fail
   refine (hv.out _ (by decide) _).mono ?_;rintro e w4 ⟨rfl,rfl⟩;dsimp only
   go_wp2_with fail
   go_roundw
   case rel=>first | exact⟨1,by omega,by first | rfl | trivial,by first | rfl | trivial⟩ | exact⟨2,by omega,by first | rfl | trivial,by first | rfl | trivial⟩ | exact⟨3,by omega,by first | rfl | trivial,by first | rfl | trivial⟩ | exact⟨4,by omega,by first | rfl | trivial,by first | rfl | trivial⟩
   case measure=>simp[intOf]
theorem eat_c (w:World):Calls prog 119 #[.agg #[.int .i64 5,.int .i64 4089446400000000,.int .i64 4089446400000000,.int .i64 9,.int .i64 0],.int .i64 0] w fun e w'=>e=.returned (.tuple #[.agg #[.int .i64 4089446400000000,.int .i64 4089446400000004],.int .i64 0])/\Below w.heap.size w w':=by
 have hv:=lhd (fun (t:Int) (h:vT t=true) W=>(show Calls prog 176 #[.int .i64 t] W fun e w'=>e=.returned (.bool true)/\W=w' by have:=validt_any t W;rw[h] at this;exact this))
 go_enter func119,ntmps119
 go_wp2_with fail
 have hal:=bgo (balloc w (.cells #[.int .i64 5,.int .i64 4089446400000000,.int .i64 4089446400000000,.int .i64 9,.int .i64 0] 166)) (balloc _ (.cells #[.int .i64 0,.int .i64 0] 24));have x2:=(Box.new w 166 [.int .i64 5,.int .i64 4089446400000000,.int .i64 4089446400000000,.int .i64 9,.int .i64 0]).below (balloc _ (.cells #[.int .i64 0,.int .i64 0] 24));have x3:=Box.new (w.alloc (.cells #[.int .i64 5,.int .i64 4089446400000000,.int .i64 4089446400000000,.int .i64 9,.int .i64 0] 166)) 24 [.int .i64 0,.int .i64 0];rw[xsa] at x3;change Box ((w.alloc (.cells #[.int .i64 5,.int .i64 4089446400000000,.int .i64 4089446400000000,.int .i64 9,.int .i64 0] 166)).alloc (.cells #[.int .i64 0,.int .i64 0] 24)) _ _ _ at x2 x3;generalize (w.alloc (.cells #[.int .i64 5,.int .i64 4089446400000000,.int .i64 4089446400000000,.int .i64 9,.int .i64 0] 166)).alloc (.cells #[.int .i64 0,.int .i64 0] 24)=W0 at *;replace hal:=lhd hal;have hg3:Hid (w.heap.size<=w.heap.size+1):=Nat.le_succ _;generalize w.heap.size+1=g3 at *;generalize hg2:w.heap.size=g2 at x2 ⊢;refine (echeck_c _).mono ?_;rintro e w1 ⟨rfl,hb1⟩;replace x2:=x2.below hb1;replace x3:=x3.below hb1;replace hal:=lhd (bgo hal.out hb1);have a0:w1.cell? ⟨g2,0,none⟩=some (.int .i64 5):=x2.cell 0;have a3:w1.cell? ⟨g2,3,none⟩=some (.int .i64 9):=x2.cell 3;dsimp only
 go_wp2_with fail
 refine (elapsed_c _).mono ?_;rintro e w2 ⟨rfl,hb2⟩;clear a0 a3;replace x2:=x2.below hb2;replace x3:=x3.below hb2;replace hal:=lhd (bgo hal.out hb2);have a1:w2.cell? ⟨g2,1,none⟩=some (.int .i64 4089446400000000):=x2.cell 1;have a2:w2.cell? ⟨g2,2,none⟩=some (.int .i64 4089446400000000):=x2.cell 2;have a4:w2.cell? ⟨g2,4,none⟩=some (.int .i64 0):=x2.cell 4;have hal2:=balloc w2 (.cells #[.int .i64 4,.int .i64 4] 24);have x4:=Box.new w2 24 [.int .i64 4,.int .i64 4];change Box (w2.alloc (.cells #[.int .i64 4,.int .i64 4] 24)) _ _ _ at x4;have y2:=x2.below hal2;have c1:(w2.alloc (.cells #[.int .i64 4,.int .i64 4] 24)).cell? ⟨g2,1,none⟩=some (.int .i64 4089446400000000):=y2.cell 1;have c2:(w2.alloc (.cells #[.int .i64 4,.int .i64 4] 24)).cell? ⟨g2,2,none⟩=some (.int .i64 4089446400000000):=y2.cell 2;have c4:(w2.alloc (.cells #[.int .i64 4,.int .i64 4] 24)).cell? ⟨g2,4,none⟩=some (.int .i64 0):=y2.cell 4;obtain⟨d0,d1,d2,d3⟩:=box2_cells (x3.below hal2);obtain⟨e0,e1,e2,e3⟩:=box2_cells x4;dsimp only
 go_wp2_with fail
 have x5:=Box.new (w2.alloc (.cells #[.int .i64 4,.int .i64 4] 24)) 24 [.int .i64 4089446400000000,.int .i64 4089446400000004];rw[xsa] at x5;have hal3:=balloc (w2.alloc (.cells #[.int .i64 4,.int .i64 4] 24)) (.cells #[.int .i64 4089446400000000,.int .i64 4089446400000004] 24);have z3:=(x3.below hal2).below hal3;change Box ((w2.alloc (.cells #[.int .i64 4,.int .i64 4] 24)).alloc (.cells #[.int .i64 4089446400000000,.int .i64 4089446400000004] 24)) _ _ _ at x5 z3;replace hal:=lhd (bgo (bgo hal.out hal2) hal3);clear hb1 hb2 x2 x3 a1 a2 a4 hal2 x4 y2 c1 c2 c4 d0 d1 d2 d3 e0 e1 e2 e3 hal3;change Hid (Below w.heap.size w ((w2.alloc (.cells #[.int .i64 4,.int .i64 4] 24)).alloc (.cells #[.int .i64 4089446400000000,.int .i64 4089446400000004] 24))) at hal;generalize (w2.alloc (.cells #[.int .i64 4,.int .i64 4] 24)).alloc (.cells #[.int .i64 4089446400000000,.int .i64 4089446400000004] 24)=W4 at *;generalize w2.heap.size+1=g5 at *;obtain⟨d0,d1,d2,d3⟩:=box2_cells z3;obtain⟨e0,e1,e2,e3⟩:=box2_cells x5;refine (hv.out _ (by decide) _).mono ?_;rintro e w4 ⟨rfl,rfl⟩;dsimp only
 go_wp2_with fail
 refine (hv.out _ (by decide) _).mono ?_;rintro e w4 ⟨rfl,rfl⟩;dsimp only
 go_wp2_with fail
 have hb:=lhd ((hal.out.setCell (p:=⟨g3,0,none⟩) hg3.out (.int .i64 4089446400000000)).setCell (p:=⟨g3,1,none⟩) hg3.out (.int .i64 4089446400000004));have x6:=(z3.set 0 (.int .i64 4089446400000000)).set 1 (.int .i64 4089446400000004);simp only[xsz,xss] at x6;generalize (W4.setCell ⟨g3,0,none⟩ (.int .i64 4089446400000000)).setCell ⟨g3,1,none⟩ (.int .i64 4089446400000004)=W3 at *;have z0:W3.cell? ⟨g3,0,none⟩=some (.int .i64 4089446400000000):=x6.cell 0;have z1:W3.cell? ⟨g3,1,none⟩=some (.int .i64 4089446400000004):=x6.cell 1;refine bodyPost_ret (v:=.tuple #[.agg #[.int .i64 4089446400000000,.int .i64 4089446400000004],.int .i64 0]) (by simp[results,results119,go_sem,z0,z1]) rfl ?_;exact⟨rfl,hb.out⟩
theorem only_c (w:World):Calls prog 118 #[.agg #[.int .i64 4089446399999000,.int .i64 4089446400001000],.int .u64 16750372454400000000] w fun e w'=>e=.returned (.tuple #[.agg #[.int .i64 4089446400000000,.int .i64 4089446400000000],.int .i64 0])/\Below w.heap.size w w':=by
 have h:=only_one 4089446399999000 4089446400001000 16750372454400000000 (by omega) (by omega) (by decide) (by decide) w;rw[show efirst_ 4089446399999000 16750372454400000000=0 by decide,show elo_ 0 16750372454400000000=4089446400000000 by decide,show ehi_ 0 16750372454400000000=4089446400000000 by decide] at h;exact h
theorem awake_any (w:World):Calls prog 57 #[] w fun e w'=>e=.returned (.bool true)/\Below w.heap.size w w':=by
 go_enter func57,ntmps57
 go_wp2_with fail
 refine (ewire_any _ (by omega) (by omega) _).mono ?_;rintro e w1 ⟨rfl,rfl⟩;dsimp only
 go_wp2_with fail
 refine (only_c _).mono ?_;rintro e w2 ⟨rfl,hb2⟩;dsimp only
 go_wp2_with fail
 have hal:=balloc w2 (.cells #[.int .i64 4089446400000000,.int .i64 4089446400000000] 24);have x2:=Box.new w2 24 [.int .i64 4089446400000000,.int .i64 4089446400000000];change Box (w2.alloc (.cells #[.int .i64 4089446400000000,.int .i64 4089446400000000] 24)) _ _ _ at x2;replace hal:=lhd (bgo hb2 hal);clear hb2;generalize w2.alloc (.cells #[.int .i64 4089446400000000,.int .i64 4089446400000000] 24)=W0 at *;generalize w2.heap.size=g2 at *;refine (eat_c _).mono ?_;rintro e w3 ⟨rfl,hb3⟩;have hal3:=balloc w3 (.cells #[.int .i64 4089446400000000,.int .i64 4089446400000004] 24);replace x2:=(x2.below hb3).below hal3;obtain⟨d0,d1,d2,d3⟩:=box2_cells x2;have x4:=Box.new w3 24 [.int .i64 4089446400000000,.int .i64 4089446400000004];change Box (w3.alloc (.cells #[.int .i64 4089446400000000,.int .i64 4089446400000004] 24)) _ _ _ at x4;obtain⟨e0,e1,e2,e3⟩:=box2_cells x4;replace hal:=lhd (bgo (bgo hal.out hb3) hal3);clear hb3 hal3 x2 x4;dsimp only
 go_wp2_with fail
 have hh:=lhd (fun W=>holds_any 4089446400000000 4089446400000004 4089446400000004 W);rw[show (vS 4089446400000000 4089446400000004&&(decide ((4089446400000000:Int)<=4089446400000004)&&decide ((4089446400000004:Int)<=4089446400000004)))=true by decide] at hh;refine (hh.out _).mono ?_;rintro e w4 ⟨rfl,hb4⟩;replace hal:=lhd (bgo hal.out hb4);clear hb4 d0 d1 d2 d3 e0 e1 e2 e3 hh;dsimp only
 go_wp2_with fail
 go_ret
 exact⟨rfl,hal.out⟩
end Go.Proofs.YtjgepckncogdaaaGreat
