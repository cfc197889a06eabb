/- Contracts of functions, walks, plain facts. Conditions: those of each theorem. -/
import Derived.Test.YtjgepckncogdaaaGreatK27
import Derived.Test.YtjgepckncogdaaaGreatZC1
set_option linter.unusedVariables false
set_option linter.unusedSimpArgs false
set_option maxRecDepth 100000
set_option maxHeartbeats 16000000
namespace Go.Proofs.YtjgepckncogdaaaGreat
open Go Go.RowKit _root_.Go.Proofs.Tryz
theorem wrap_zip (a c:Bs):namesA.zip [a,c]=wrapT a c:=rfl
def DAnsP (r:GrantV × List Bs × Int) (w:World) (e:Ending) (w':World):Prop:=
 ∃v1 v2 v3 v4,e=.returned (.tuple #[.agg #[v1,.int .i64 r.1.1.2.1,.int .i64 r.1.1.2.2,v2,.int .i64 r.1.2.2.1,.int .i64 r.1.2.2.2.1,v3],v4,.int .i64 r.2.2])/\SeesB w' w'.heap.size v1 r.1.1.1/\SeesB w' w'.heap.size v2 r.1.2.1/\SeesB w' w'.heap.size v3 r.1.2.2.2.2/\SeesL w' w'.heap.size v4 r.2.1/\Below w.heap.size w w'
theorem dans_bad {r:GrantV × List Bs × Int} {c:Int} (h:r=(noGrant,[],c)) {w w':World} (hb:Below w.heap.size w w'):DAnsP r w (.returned (.tuple #[.agg #[.slice none 0 0,.int .i64 0,.int .i64 0,.slice none 0 0,.int .i64 0,.int .i64 0,.slice none 0 0],.slice none 0 0,.int .i64 c])) w':=by
 subst h;exact⟨_,_,_,_,rfl,SeesB.nil _ _,SeesB.nil _ _,SeesB.nil _ _,(OwnL.nil w' 0).sees,hb⟩
theorem dans_ok {r:GrantV × List Bs × Int} {rs P S:Bs} {rh rn f t:Int} {ls:List Bs} (h:r=(((rs,rh,rn),(P,f,t,S)),ls,0)) {w W:World} {v1 v2 v3 v4:Value} (t1:SeesB W W.heap.size v1 rs) (t2:SeesB W W.heap.size v2 P) (t3:SeesB W W.heap.size v3 S) (t4:SeesL W W.heap.size v4 ls) (hb:Below w.heap.size w W) :
 DAnsP r w (.returned (.tuple #[.agg #[v1,.int .i64 rh,.int .i64 rn,v2,.int .i64 f,.int .i64 t,v3],v4,.int .i64 0])) W:=by
 subst h;exact⟨_,_,_,_,rfl,t1,t2,t3,t4,hb⟩
def mixL (c:Bs) (ys:List Bs) (k:Nat):List Bs:=(ys.take k).map (wrapB c)++ys.drop k
theorem mixL_zero (c:Bs) (ys:List Bs):mixL c ys 0=ys:=by simp[mixL]
theorem mixL_all (c:Bs) (ys:List Bs):mixL c ys ys.length=ys.map (wrapB c):=by simp[mixL]
theorem mixL_len (c:Bs) (ys:List Bs) (k:Nat) (hk:k<=ys.length):(mixL c ys k).length=ys.length:=by
 simp[mixL];omega
theorem mixL_get (c:Bs) (ys:List Bs) (k:Nat) (hk:k<ys.length):(mixL c ys k).getD k []=ys.getD k []:=by
 rw[xgd,xgd,mixL,xar (by simp;omega)];simp;rw[Nat.min_eq_left (by omega),Nat.sub_self,Nat.add_zero]
theorem mixL_step (c:Bs) (ys:List Bs) (k:Nat) (a:Bs) (h:ys[k]?=some a):(mixL c ys k).set k (wrapB c a)=mixL c ys (k+1):=by
 have hk:k<ys.length:=(List.getElem?_eq_some_iff.1 h).1;have hd:ys.drop k=a :: ys.drop (k+1):=by
  rw[List.drop_eq_getElem_cons hk];rw[xge hk] at h;cases h
  rfl
 unfold mixL;have hl:((ys.take k).map (wrapB c)).length=k:=by simp;omega
 rw[take_one ys k a h,List.map_append,hd,List.set_append,if_neg (by omega),hl,Nat.sub_self,xaa]
 rfl
attribute [local go_sem ↓] Go.wp_at_zero Go.wp_at_succ
def KGrP (v1:Value) (h n:Int) (P:Bs) (f t:Int) (S:Bs) (w:World) (e:Ending) (w':World):Prop:=
 ∃v2 v3,e=.returned (.agg #[v1,.int .i64 h,.int .i64 n,v2,.int .i64 f,.int .i64 t,v3])/\SeesB w' w'.heap.size v2 P/\SeesB w' w'.heap.size v3 S/\Below w.heap.size w w'
def GrR (wB:World) (g5:Nat) (P:Bs) (f t:Int) (S:Bs) (W:World):Prop:=
 ∃A2 c2 A3 c3,Box W g5 94 [.slice A2 P.length c2,.int .i64 f,.int .i64 t,.slice A3 S.length c3]/\SeesB W W.heap.size (.slice A2 P.length c2) P/\SeesB W W.heap.size (.slice A3 S.length c3) S/\Below wB.heap.size wB W
section
variable {wB W:World} {g:Nat} {P S:Bs} {f t:Int} {B2 B3:Option Addr} {d2 d3:Nat} {a:Option Addr} {n c:Nat} {a':Option Addr} {n' c':Nat}
theorem sees_one {T:TypeId} {j:Nat} {v u:Value} {l:Bs} {xs:List Value} (x:Box W g T xs) (hn:NoByte xs) (hs:SeesB W W.heap.size u l):SeesB (W.setCell ⟨g,j,none⟩ v) (W.setCell ⟨g,j,none⟩ v).heap.size u l:=(hs.poke x hn).more (by simp[World.setCell])
theorem noD4:NoByte [Value.slice a n c,.int .i64 f,.int .i64 t,.slice a' n' c']:=noBL4 (NoB.s _ _ _) (NoB.i _) (NoB.i _) (NoB.s _ _ _)
theorem grr_c (x:Box W g 94 [.slice B2 P.length d2,.int .i64 f,.int .i64 t,.slice a' n' c']) (m2:SeesB W W.heap.size (.slice B2 P.length d2) P) (m3:SeesB W W.heap.size (.slice B3 S.length d3) S) (hb:Below wB.heap.size wB W) (hg:wB.heap.size<=g) :
 GrR wB g P f t S (W.setCell ⟨g,3,none⟩ (.slice B3 S.length d3)):=by
 have y:=x.set 3 (.slice B3 S.length d3);simp only[xss,xsz] at y;exact⟨B2,d2,B3,d3,y,sees_one x noD4 m2,sees_one x noD4 m3,hb.setCell (p:=⟨g,3,none⟩) hg _⟩
theorem grr_a (x:Box W g 94 [.slice a n c,.int .i64 f,.int .i64 t,.slice a' n' c']) (m2:SeesB W W.heap.size (.slice B2 P.length d2) P) (m3:SeesB W W.heap.size (.slice B3 S.length d3) S) (hb:Below wB.heap.size wB W) (hg:wB.heap.size<=g) :
 GrR wB g P f t S ((W.setCell ⟨g,0,none⟩ (.slice B2 P.length d2)).setCell ⟨g,3,none⟩ (.slice B3 S.length d3)):=by
 have y:=x.set 0 (.slice B2 P.length d2);simp only[xss,xsz] at y;exact grr_c y (sees_one x noD4 m2) (sees_one x noD4 m3) (hb.setCell (p:=⟨g,0,none⟩) hg _) hg
theorem grr_b (x:Box W g 94 [.slice a n c,.int .i64 f,.int .i64 t,.slice a' n' c']) (m2:SeesB W W.heap.size (.slice B2 P.length d2) P) (m3:SeesB W W.heap.size (.slice B3 S.length d3) S) (hb:Below wB.heap.size wB W) (hg:wB.heap.size<=g) :
 GrR wB g P f t S ((W.setCell ⟨g,3,none⟩ (.slice B3 S.length d3)).setCell ⟨g,0,none⟩ (.slice B2 P.length d2)):=by
 have y:=x.set 3 (.slice B3 S.length d3);simp only[xss,xsz] at y;have z:=y.set 0 (.slice B2 P.length d2);simp only[xss,xsz] at z;exact⟨B2,d2,B3,d3,z,sees_one y noD4 (sees_one x noD4 m2),sees_one y noD4 (sees_one x noD4 m3),(hb.setCell (p:=⟨g,3,none⟩) hg _).setCell (p:=⟨g,0,none⟩) hg _⟩
end
theorem kgranted2_any (B:Nat) (A0:Option Addr) (n00 c00:Nat) (A1:Option Addr) (n1 c1:Nat) (u2 u3:Value) (h0 n0 h n:Int) (P S:Bs) (f t:Int) (w:World) (hu2:SeesB w B u2 P) (hu3:SeesB w B u3 S) (hB:B<=w.heap.size) (hP:P.length<=1048576) (hS:S.length<=1048576) :
 Calls prog 130 #[.agg #[.slice A0 n00 c00,.int .i64 h0,.int .i64 n0,u2,.int .i64 f,.int .i64 t,u3],  .agg #[.slice A1 n1 c1,.int .i64 h,.int .i64 n]] w (KGrP (.slice A1 n1 c1) h n P f t S w):=by
 obtain⟨A2,c2,rfl,-,-⟩:=hu2.mk_;obtain⟨A3,c3,rfl,-,-⟩:=hu3.mk_;have b4:=bgo (bgo (bgo (balloc w (.cells #[.slice A0 n00 c00,.int .i64 h0,.int .i64 n0,.slice A2 P.length c2,.int .i64 f,.int .i64 t,.slice A3 S.length c3] 96)) (balloc _ (.cells #[.slice A1 n1 c1,.int .i64 h,.int .i64 n] 27))) (balloc _ (.cells #[.slice none 0 0,.int .i64 0,.int .i64 0,.slice none 0 0,.int .i64 0,.int .i64 0,.slice none 0 0] 96))) (balloc _ (.cells #[.slice A2 P.length c2,.int .i64 f,.int .i64 t,.slice A3 S.length c3] 94));have bB:=lhd (bgo (bgo (balloc w (.cells #[.slice A0 n00 c00,.int .i64 h0,.int .i64 n0,.slice A2 P.length c2,.int .i64 f,.int .i64 t,.slice A3 S.length c3] 96)) (balloc _ (.cells #[.slice A1 n1 c1,.int .i64 h,.int .i64 n] 27))) (balloc _ (.cells #[.slice none 0 0,.int .i64 0,.int .i64 0,.slice none 0 0,.int .i64 0,.int .i64 0,.slice none 0 0] 96)));have x3:=((Box.new (w.alloc (.cells #[.slice A0 n00 c00,.int .i64 h0,.int .i64 n0,.slice A2 P.length c2,.int .i64 f,.int .i64 t,.slice A3 S.length c3] 96)) 27 [.slice A1 n1 c1,.int .i64 h,.int .i64 n]).below (balloc _ (.cells #[.slice none 0 0,.int .i64 0,.int .i64 0,.slice none 0 0,.int .i64 0,.int .i64 0,.slice none 0 0] 96))).below (balloc _ (.cells #[.slice A2 P.length c2,.int .i64 f,.int .i64 t,.slice A3 S.length c3] 94))
 have x4:=(Box.new ((w.alloc (.cells #[.slice A0 n00 c00,.int .i64 h0,.int .i64 n0,.slice A2 P.length c2,.int .i64 f,.int .i64 t,.slice A3 S.length c3] 96)).alloc (.cells #[.slice A1 n1 c1,.int .i64 h,.int .i64 n] 27)) 96 [.slice none 0 0,.int .i64 0,.int .i64 0,.slice none 0 0,.int .i64 0,.int .i64 0,.slice none 0 0]).below (balloc _ (.cells #[.slice A2 P.length c2,.int .i64 f,.int .i64 t,.slice A3 S.length c3] 94));have x5:=Box.new (((w.alloc (.cells #[.slice A0 n00 c00,.int .i64 h0,.int .i64 n0,.slice A2 P.length c2,.int .i64 f,.int .i64 t,.slice A3 S.length c3] 96)).alloc (.cells #[.slice A1 n1 c1,.int .i64 h,.int .i64 n] 27)).alloc (.cells #[.slice none 0 0,.int .i64 0,.int .i64 0,.slice none 0 0,.int .i64 0,.int .i64 0,.slice none 0 0] 96)) 94 [.slice A2 P.length c2,.int .i64 f,.int .i64 t,.slice A3 S.length c3];have bD:=lhd (balloc (((w.alloc (.cells #[.slice A0 n00 c00,.int .i64 h0,.int .i64 n0,.slice A2 P.length c2,.int .i64 f,.int .i64 t,.slice A3 S.length c3] 96)).alloc (.cells #[.slice A1 n1 c1,.int .i64 h,.int .i64 n] 27)).alloc (.cells #[.slice none 0 0,.int .i64 0,.int .i64 0,.slice none 0 0,.int .i64 0,.int .i64 0,.slice none 0 0] 96)) (.cells #[.slice A2 P.length c2,.int .i64 f,.int .i64 t,.slice A3 S.length c3] 94))
 have hgB:(((w.alloc (.cells #[.slice A0 n00 c00,.int .i64 h0,.int .i64 n0,.slice A2 P.length c2,.int .i64 f,.int .i64 t,.slice A3 S.length c3] 96)).alloc (.cells #[.slice A1 n1 c1,.int .i64 h,.int .i64 n] 27)).alloc (.cells #[.slice none 0 0,.int .i64 0,.int .i64 0,.slice none 0 0,.int .i64 0,.int .i64 0,.slice none 0 0] 96)).heap.size=w.heap.size+1+1+1:=by rw[xsa,xsa,xsa]
 rw[xsa] at x3;rw[xsa,xsa] at x4;rw[xsa,xsa,xsa] at x5;have s2:=seesB_of hu2 hB b4;have s3:=seesB_of hu3 hB b4;change Box ((((w.alloc (.cells #[.slice A0 n00 c00,.int .i64 h0,.int .i64 n0,.slice A2 P.length c2,.int .i64 f,.int .i64 t,.slice A3 S.length c3] 96)).alloc (.cells #[.slice A1 n1 c1,.int .i64 h,.int .i64 n] 27)).alloc (.cells #[.slice none 0 0,.int .i64 0,.int .i64 0,.slice none 0 0,.int .i64 0,.int .i64 0,.slice none 0 0] 96)).alloc (.cells #[.slice A2 P.length c2,.int .i64 f,.int .i64 t,.slice A3 S.length c3] 94)) _ _ _ at x3 x4 x5;have hg4:w.heap.size<=w.heap.size+1+1:=by omega
 replace hg4:=lhd hg4;replace hgB:=lhd hgB;clear hu2 hu3 b4
 go_enter func130,ntmps130
 go_wp2_with fail
 generalize ((w.alloc (.cells #[.slice A0 n00 c00,.int .i64 h0,.int .i64 n0,.slice A2 P.length c2,.int .i64 f,.int .i64 t,.slice A3 S.length c3] 96)).alloc (.cells #[.slice A1 n1 c1,.int .i64 h,.int .i64 n] 27)).alloc (.cells #[.slice none 0 0,.int .i64 0,.int .i64 0,.slice none 0 0,.int .i64 0,.int .i64 0,.slice none 0 0] 96)=wB at *;generalize wB.alloc (.cells #[.slice A2 P.length c2,.int .i64 f,.int .i64 t,.slice A3 S.length c3] 94)=W0 at *;generalize hG5:w.heap.size+1+1+1=g5 at *;generalize hG4:w.heap.size+1+1=g4 at *;generalize hG3:w.heap.size+1=g3 at *;have hn35:g3<g5:=by omega
 have hn45:g4<g5:=by omega
 replace hG5:=lhd hG5;replace hG4:=lhd hG4;replace hG3:=lhd hG3;have hgBl:Hid (wB.heap.size<=g5):=by show _<=_;have:=hgB.out;omega
 have hc0:=lhd (bclone_any _ _ P W0.drew (seesB_of s2 nlr (bdrew W0)) nlr (by omega));have hc0':=lhd (bclone_any _ _ P W0 s2 nlr (by omega));have hc3:=lhd (fun W (hs:SeesB W W.heap.size (.slice A3 S.length c3) S)=>bclone_any W.heap.size _ S W hs nlr (by omega));have x34:=lhd (show (∀W,Below wB.heap.size wB W->Box W g3 27 [.slice A1 n1 c1,.int .i64 h,.int .i64 n]/\Box W g4 96 [.slice none 0 0,.int .i64 0,.int .i64 0,.slice none 0 0,.int .i64 0,.int .i64 0,.slice none 0 0]) from fun W hW=>by
  have e3:Box wB g3 27 [.slice A1 n1 c1,.int .i64 h,.int .i64 n]:=(bD.out.block g3 (by have:=hgB.out;omega)).symm.trans x3;have e4:Box wB g4 96 [.slice none 0 0,.int .i64 0,.int .i64 0,.slice none 0 0,.int .i64 0,.int .i64 0,.slice none 0 0]:=(bD.out.block g4 (by have:=hgB.out;omega)).symm.trans x4;exact⟨e3.below hW,e4.below hW⟩)
 obtain⟨y0,y1,y2,y3,f0,f1,f2,f3⟩:=box4_cells x5;replace s3:=lhd s3;clear x3 x4 s2 hn35 hn45
 go_cut [10] (fun v W=>GrR wB g5 P f t S W)
 case first=>
  clear y1 y2 f1 f2
  go_region_with
   (first
    | (go_at_call_of 92 (A2);(with_reducible refine hc0.out.mono ?_);rintro e w1 ⟨v2',rfl,o1,hb1⟩
       obtain⟨B2,d2,rfl,-,-⟩:=o1.sees.mk_;have m2:=o1.sees;replace hb1:=bgo (bdrew W0) hb1;have x51:=x5.below hb1;have s31:=seesB_of s3.out nlr hb1;obtain⟨e0,-,-,e3,j0,-,-,j3⟩:=box4_cells x51)
    | (go_at_call_of 92 (A2);(with_reducible refine hc0'.out.mono ?_);rintro e w1 ⟨v2',rfl,o1,hb1⟩
       obtain⟨B2,d2,rfl,-,-⟩:=o1.sees.mk_;have m2:=o1.sees;have x51:=x5.below hb1;have s31:=seesB_of s3.out nlr hb1;obtain⟨e0,-,-,e3,j0,-,-,j3⟩:=box4_cells x51)
    | (go_at_call_of 92 (A3);(with_reducible refine (hc3.out w1 s31).mono ?_);rintro e w2 ⟨v3',rfl,o2,hb2⟩
       obtain⟨B3,d3,rfl,-,-⟩:=o2.sees.mk_;have m3:=o2.sees;replace m2:=seesB_of m2 nlr hb2;have x52:=x51.below hb2;have hb2':=bgo bD.out (bgo hb1 hb2);obtain⟨i0,-,-,i3,k0,-,-,k3⟩:=box4_cells x52)
    | (go_at_call_of 92 (A3);(with_reducible refine (hc3.out (w1.setCell ⟨g5,0,none⟩ (.slice B2 P.length d2)) (sees_one x51 noD4 s31)).mono ?_);rintro e w2 ⟨v3',rfl,o2,hb2⟩
       obtain⟨B3,d3,rfl,-,-⟩:=o2.sees.mk_;have m3:=o2.sees;have x52:=(show Box (w1.setCell ⟨g5,0,none⟩ (.slice B2 P.length d2)) g5 94 [.slice B2 P.length d2,.int .i64 f,.int .i64 t,.slice A3 S.length c3] by have y:=x51.set 0 (.slice B2 P.length d2);simpa only [xss,xsz] using y).below hb2;replace m2:=seesB_of (sees_one (j:=0) (v:=.slice B2 P.length d2) x51 noD4 m2) nlr hb2;have hb2':=bgo ((bgo bD.out hb1).setCell (p:=⟨g5,0,none⟩) hgBl.out (.slice B2 P.length d2)) hb2;obtain⟨i0,-,-,i3,k0,-,-,k3⟩:=box4_cells x52))
  all_goals
   go_wp2_with fail
   go_meet
   first
    | (with_reducible exact grr_a x52 m2 m3 hb2' hgBl.out)
    | (with_reducible exact grr_b x52 m2 m3 hb2' hgBl.out)
    | (with_reducible exact grr_c x52 m2 m3 hb2' hgBl.out)
 case rest=>
  obtain⟨B2,d2,B3,d3,x5',m2,m3,hb⟩:=hcut;obtain⟨w2,rfl⟩:∃w2:World,w2=wc:=⟨_,rfl⟩
  obtain⟨e3,e4⟩:=x34.out w2 hb;have hbw:=lhd (bgo bB.out hb);clear x34 y0 y1 y2 y3 f0 f1 f2 f3 x5 hb;obtain⟨z0,z1,z2,z3,-,-,-,-⟩:=box4_cells x5';obtain⟨a0,a1,a2,-,-,-⟩:=box3_cells e3;obtain⟨q0,q1,q2,q3,q4,q5,q6⟩:=box7_cells e4;obtain⟨r0,r1,r2,r3,r4,r5,r6⟩:=box7_soft e4
  go_wp2_with fail
  have k:=box_set7 e4 (.slice A1 n1 c1) (.int .i64 h) (.int .i64 n) (.slice B2 P.length d2) (.int .i64 f) (.int .i64 t) (.slice B3 S.length d3);have k2:=lhd (sees_set7 e4 noZ7 (.slice A1 n1 c1) (.int .i64 h) (.int .i64 n) (.slice B2 P.length d2) (.int .i64 f) (.int .i64 t) (.slice B3 S.length d3) m2);have k3:=lhd (sees_set7 e4 noZ7 (.slice A1 n1 c1) (.int .i64 h) (.int .i64 n) (.slice B2 P.length d2) (.int .i64 f) (.int .i64 t) (.slice B3 S.length d3) m3);have kb:=lhd (below_set7 hbw.out hg4.out (.slice A1 n1 c1) (.int .i64 h) (.int .i64 n) (.slice B2 P.length d2) (.int .i64 f) (.int .i64 t) (.slice B3 S.length d3));clear z0 z1 z2 z3 a0 a1 a2 q0 q1 q2 q3 q4 q5 q6 r0 r1 r2 r3 r4 r5 r6 e3 e4 x5' m2 m3;generalize ((((((w2.setCell ⟨g4,0,none⟩ (.slice A1 n1 c1)).setCell ⟨g4,1,none⟩ (.int .i64 h)).setCell ⟨g4,2,none⟩ (.int .i64 n)).setCell ⟨g4,3,none⟩ (.slice B2 P.length d2)).setCell ⟨g4,4,none⟩ (.int .i64 f)).setCell ⟨g4,5,none⟩ (.int .i64 t)).setCell ⟨g4,6,none⟩ (.slice B3 S.length d3)=W9 at *;obtain⟨z0,z1,z2,z3,z4,z5,z6⟩:=box7_cells k;refine bodyPost_ret (v:=.agg #[.slice A1 n1 c1,.int .i64 h,.int .i64 n,.slice B2 P.length d2,.int .i64 f,.int .i64 t,.slice B3 S.length d3]) (by simp[results,results130,go_sem,z0,z1,z2,z3,z4,z5,z6]) rfl ?_;exact⟨_,_,rfl,k2.out,k3.out,kb.out⟩
attribute [local go_sem ↓] Go.wp_at_zero Go.wp_at_succ
theorem dnames_eq (w:World):Calls prog 129 #[] w fun e w'=>e=.returned (.tuple #[.slice (some ⟨w.heap.size,0,none⟩) 3 3,.slice (some ⟨w.heap.size+1,0,none⟩) 2 2])/\w'=(w.alloc (.cells #[.string ⟨#[75,69,89,83]⟩,.string ⟨#[83,73,71,78]⟩,.string ⟨#[83,80,65,78]⟩] 9)).alloc (.cells #[.string ⟨#[65,78,83,87]⟩,.string ⟨#[67,69,82,84]⟩] 9):=by
 go_enter func129,ntmps129
 go_wp2_with fail
 go_returns
 exact⟨rfl,rfl⟩
theorem namesA_box {W:World} {g:Nat} (x:Box W g 9 [.string ⟨#[65,78,83,87]⟩,.string ⟨#[67,69,82,84]⟩]):SeesR W W.heap.size (.slice (some ⟨g,0,none⟩) 2 2) 1 namesA.length (nameS namesA):=by
 refine⟨rfl,[.string ⟨#[65,78,83,87]⟩,.string ⟨#[67,69,82,84]⟩],⟨rfl,_,_,rfl,Nat.le_refl 2,by simp[maxLen],fun _=>⟨g,0,rfl,x.lt,fun j u hu=>?_⟩⟩,fun k s hk=>?_⟩
 ·rw[Nat.zero_add,x.cell]
  exact hu
 have e1:nameS namesA=[Spec.val (.string (strB nANSW)),Spec.val (.string (strB nCERT))]:=rfl;rw[e1] at hk
 match k,hk with
 | 0,hk=>cases hk;exact⟨_,rfl,rfl,rfl⟩
 | 1,hk=>cases hk;exact⟨_,rfl,rfl,rfl⟩
 | k+2,hk=>simp at hk
theorem below_boxB {W W':World} {B g:Nat} {T:TypeId} {xs:List Value} (hb:Below B W W') (x:Box W g T xs) (hg:g<B):Box W' g T xs:=(hb.block g hg).trans x
theorem danswer_any (B:Nat) (u u2 u3 u4:Value) (sd:Bs) (h n:Int) (P:Bs) (f t:Int) (S:Bs) (ns:List Bs) (lo hi:Int) (w:World) (hu:SeesB w B u sd) (hu2:SeesB w B u2 P) (hu3:SeesB w B u3 S) (hu4:SeesL w B u4 ns) (hB:B<=w.heap.size) (hP:P.length<=1048576) (hS:S.length<=1048576) (hn:ns.length<=1048576) :
 Calls prog 63 #[.agg #[u,.int .i64 h,.int .i64 n,u2,.int .i64 f,.int .i64 t,u3],u4,.agg #[.int .i64 lo,.int .i64 hi]] w (DAnsP (dansR sd h n P f t S ns lo hi) w):=by
 obtain⟨A,c,rfl,-,-⟩:=hu.mk_;obtain⟨A2,c2,rfl,-,-⟩:=hu2.mk_;obtain⟨A3,c3,rfl,-,-⟩:=hu3.mk_;obtain⟨A4,c4,rfl,-,-⟩:=hu4.mk_;have b3:=bgo (bgo (balloc w (.cells #[.slice A sd.length c,.int .i64 h,.int .i64 n,.slice A2 P.length c2,.int .i64 f,.int .i64 t,.slice A3 S.length c3] 96)) (balloc _ (.cells #[.int .i64 lo,.int .i64 hi] 24))) (balloc _ (.cells #[.slice none 0 0,.int .i64 0,.int .i64 0,.slice none 0 0,.int .i64 0,.int .i64 0,.slice none 0 0] 96));have x3:=((Box.new w 96 [.slice A sd.length c,.int .i64 h,.int .i64 n,.slice A2 P.length c2,.int .i64 f,.int .i64 t,.slice A3 S.length c3]).below (balloc _ (.cells #[.int .i64 lo,.int .i64 hi] 24))).below (balloc _ (.cells #[.slice none 0 0,.int .i64 0,.int .i64 0,.slice none 0 0,.int .i64 0,.int .i64 0,.slice none 0 0] 96));have x5:=(Box.new (w.alloc (.cells #[.slice A sd.length c,.int .i64 h,.int .i64 n,.slice A2 P.length c2,.int .i64 f,.int .i64 t,.slice A3 S.length c3] 96)) 24 [.int .i64 lo,.int .i64 hi]).below (balloc _ (.cells #[.slice none 0 0,.int .i64 0,.int .i64 0,.slice none 0 0,.int .i64 0,.int .i64 0,.slice none 0 0] 96));have x6:=Box.new ((w.alloc (.cells #[.slice A sd.length c,.int .i64 h,.int .i64 n,.slice A2 P.length c2,.int .i64 f,.int .i64 t,.slice A3 S.length c3] 96)).alloc (.cells #[.int .i64 lo,.int .i64 hi] 24)) 96 [.slice none 0 0,.int .i64 0,.int .i64 0,.slice none 0 0,.int .i64 0,.int .i64 0,.slice none 0 0];rw[xsa] at x5;rw[xsa,xsa] at x6;have su:=lhd (seesB_of hu hB b3);have sP:=lhd (seesB_of hu2 hB b3)
 have sS:=lhd (seesB_of hu3 hB b3);have sn:=lhd (seesL_of hu4 hB b3);have hg6:w.heap.size<=w.heap.size+1+1:=by omega
 replace hg6:=lhd hg6;have hn9:=lhd hn;have hP9:=lhd hP;have hS9:=lhd hS;have hbw:=lhd b3;have hD:Hid (dansR sd h n P f t S ns lo hi=if dencC P f t S=0 then
  (if (answerR sd h n ns lo hi).2.2=0 then
   (if inS lo hi f t=true then
    (if wrapOk (dencB P f t S) (answerR sd h n ns lo hi).2.1=true then (((answerR sd h n ns lo hi).1,(P,f,t,S)),(answerR sd h n ns lo hi).2.1.map (wrapB (dencB P f t S)),0)
    else (noGrant,[],2))
   else (noGrant,[],25))
  else (noGrant,[],(answerR sd h n ns lo hi).2.2))
 else (noGrant,[],dencC P f t S)):=rfl
 clear hu hu2 hu3 hu4 b3 hn hP hS;change Box (((w.alloc (.cells #[.slice A sd.length c,.int .i64 h,.int .i64 n,.slice A2 P.length c2,.int .i64 f,.int .i64 t,.slice A3 S.length c3] 96)).alloc (.cells #[.int .i64 lo,.int .i64 hi] 24)).alloc (.cells #[.slice none 0 0,.int .i64 0,.int .i64 0,.slice none 0 0,.int .i64 0,.int .i64 0,.slice none 0 0] 96)) _ _ _ at x3 x5 x6;have hen:=dencode_any _ _ _ P S f t (((w.alloc (.cells #[.slice A sd.length c,.int .i64 h,.int .i64 n,.slice A2 P.length c2,.int .i64 f,.int .i64 t,.slice A3 S.length c3] 96)).alloc (.cells #[.int .i64 lo,.int .i64 hi] 24)).alloc (.cells #[.slice none 0 0,.int .i64 0,.int .i64 0,.slice none 0 0,.int .i64 0,.int .i64 0,.slice none 0 0] 96)) sP.out sS.out nlr hP9.out hS9.out;unfold DEncP at hen;replace hen:=lhd hen
 go_enter func63,ntmps63
 go_upto_region 1 with (fail)
 generalize ((w.alloc (.cells #[.slice A sd.length c,.int .i64 h,.int .i64 n,.slice A2 P.length c2,.int .i64 f,.int .i64 t,.slice A3 S.length c3] 96)).alloc (.cells #[.int .i64 lo,.int .i64 hi] 24)).alloc (.cells #[.slice none 0 0,.int .i64 0,.int .i64 0,.slice none 0 0,.int .i64 0,.int .i64 0,.slice none 0 0] 96)=W0 at *;generalize hG6:w.heap.size+1+1=g6 at *;generalize hG5:w.heap.size+1=g5 at *;generalize hG3:w.heap.size=g3 at x3 ⊢;replace hG6:=lhd hG6;replace hG5:=lhd hG5;replace hG3:=lhd hG3;obtain⟨-,-,-,a3,a4,a5,a6⟩:=box7_cells x3
 go_wp2_with fail
 refine hen.out.mono ?_;rintro e w1 ⟨v9,rfl,o9,hb1⟩;obtain⟨A9,c9,rfl,-,-⟩:=o9.sees.mk_;replace x3:=x3.below hb1;replace x5:=x5.below hb1;replace x6:=x6.below hb1;replace su:=lhd (seesB_of su.out nlr hb1);replace sn:=lhd (seesL_of sn.out nlr hb1);replace sP:=lhd (seesB_of sP.out nlr hb1);replace sS:=lhd (seesB_of sS.out nlr hb1);replace hbw:=lhd (bgo hbw.out hb1);have sc:=lhd o9.sees;clear a3 a4 a5 a6 hen hb1 o9;dsimp only
 by_cases E1:dencC P f t S=0
 rotate_left
 ·have hr:Hid (dansR sd h n P f t S ns lo hi=(noGrant,[],dencC P f t S)):=by show _=_;rw[hD.out,if_neg E1]
  have hE:(dencC P f t S == 0)=false:=by simp[E1]
  generalize dencC P f t S=E at *;replace E1:=lhd E1;clear x3 x5 sc;obtain⟨y0,y1,y2,y3,y4,y5,y6⟩:=box7_cells x6;obtain⟨f0,f1,f2,f3,f4,f5,f6⟩:=box7_soft x6
  go_wp2_with fail
  have k:=box_set7 x6 (.slice none 0 0) (.int .i64 0) (.int .i64 0) (.slice none 0 0) (.int .i64 0) (.int .i64 0) (.slice none 0 0);have kb:=lhd (below_set7 hbw.out hg6.out (.slice none 0 0) (.int .i64 0) (.int .i64 0) (.slice none 0 0) (.int .i64 0) (.int .i64 0) (.slice none 0 0));clear y0 y1 y2 y3 y4 y5 y6 f0 f1 f2 f3 f4 f5 f6 x6;generalize ((((((w1.setCell ⟨g6,0,none⟩ (.slice none 0 0)).setCell ⟨g6,1,none⟩ (.int .i64 0)).setCell ⟨g6,2,none⟩ (.int .i64 0)).setCell ⟨g6,3,none⟩ (.slice none 0 0)).setCell ⟨g6,4,none⟩ (.int .i64 0)).setCell ⟨g6,5,none⟩ (.int .i64 0)).setCell ⟨g6,6,none⟩ (.slice none 0 0)=W9 at *;obtain⟨z0,z1,z2,z3,z4,z5,z6⟩:=box7_cells k
  try simp only[Exit.inBlock,Exit.then]
  refine bodyPost_ret (v:=.tuple #[.agg #[.slice none 0 0,.int .i64 0,.int .i64 0,.slice none 0 0,.int .i64 0,.int .i64 0,.slice none 0 0],.slice none 0 0,.int .i64 E]) (by simp[results,results63,go_sem,z0,z1,z2,z3,z4,z5,z6]) rfl ?_;exact dans_bad hr.out kb.out
 have hcl:Hid ((dencB P f t S).length<=2048):=by
  obtain⟨e1,e2⟩:=dtags_enc P f t S E1;show _<=_;rw[<-e2];exact encT_len _
 have hcm:=lhd (denc_mod P f t S);rw[E1,if_pos rfl] at hD;rw[E1];replace E1:=lhd E1;generalize dencB P f t S=C at *;have hans:=answer_any w1.heap.size _ _ sd h n ns lo hi w1 su.out sn.out nlr hn9.out;have hal9:Hid ((answerR sd h n ns lo hi).2.2=0->1<=(answerR sd h n ns lo hi).2.1.length/\(answerR sd h n ns lo hi).2.1.length<=16/\(∀a∈(answerR sd h n ns lo hi).2.1,a.length<=2048/\a.length % 4=0)):=fun h0=>answer_props h0
 unfold AnswerP at hans;generalize answerR sd h n ns lo hi=R at *;obtain⟨⟨rs,rh,rn⟩,ys,rc⟩:=R;dsimp only at hans hD hal9;replace hans:=lhd hans;obtain⟨a0,a1,a2,-,-,-,-⟩:=box7_cells x3;obtain⟨b0,b1⟩:=boxT2 x5
 go_wp2_with fail
 refine hans.out.mono ?_;rintro e w2 ⟨v7,v12,rfl,el,o12,hb2⟩;obtain⟨A7,c7,rfl,-,-⟩:=el.1.mk_;obtain⟨A12,c12,rfl⟩:=o12.shape;have hlt2:=lhd (fun k hk=>o12.lt k hk);have hal2:=balloc w2 (.cells #[.slice A7 rs.length c7,.int .i64 rh,.int .i64 rn] 27);have x11:=Box.new w2 27 [.slice A7 rs.length c7,.int .i64 rh,.int .i64 rn];change Box (w2.alloc (.cells #[.slice A7 rs.length c7,.int .i64 rh,.int .i64 rn] 27)) _ _ _ at x11;have hb12:=lhd (bgo hb2 hal2);have z6:=x6.lt;have z3:=x3.lt;replace z6:=lhd z6;replace z3:=lhd z3;have hw1w:=lhd hbw.out;have sc1:=sc;have sP1:=sP;have sS1:=sS;have x31:=lhd x3;have x61:=lhd x6;replace x3:=x3.below hb12.out;replace x5:=x5.below hb12.out;replace x6:=x6.below hb12.out;replace su:=lhd (seesB_of su.out nlr hb12.out);replace sn:=lhd (seesL_of sn.out nlr hb12.out);replace sP:=lhd (seesB_of sP.out nlr hb12.out);replace sS:=lhd (seesB_of sS.out nlr hb12.out);replace hbw:=lhd (bgo hbw.out hb12.out);replace sc:=lhd (seesB_of sc.out nlr hb12.out);replace o12:=lhd (o12.below hal2);replace el:=lhd (el.below hal2);clear hb2 hal2 hans a0 a1 a2 b0 b1;dsimp only
 go_upto_region 5 with (fail)
 generalize w2.alloc (.cells #[.slice A7 rs.length c7,.int .i64 rh,.int .i64 rn] 27)=W2 at *;generalize hG11:w2.heap.size=g11 at *;replace hG11:=lhd hG11
 by_cases E2:rc=0
 rotate_left
 ·have hr:Hid (dansR sd h n P f t S ns lo hi=(noGrant,[],rc)):=by show _=_;rw[hD.out,if_neg E2]
  have hE:(rc == 0)=false:=by simp[E2]
  replace E2:=lhd E2;clear x3 x5 sc x11 o12 el;obtain⟨y0,y1,y2,y3,y4,y5,y6⟩:=box7_cells x6;obtain⟨f0,f1,f2,f3,f4,f5,f6⟩:=box7_soft x6
  go_wp2_with fail
  have k:=box_set7 x6 (.slice none 0 0) (.int .i64 0) (.int .i64 0) (.slice none 0 0) (.int .i64 0) (.int .i64 0) (.slice none 0 0);have kb:=lhd (below_set7 hbw.out hg6.out (.slice none 0 0) (.int .i64 0) (.int .i64 0) (.slice none 0 0) (.int .i64 0) (.int .i64 0) (.slice none 0 0));clear y0 y1 y2 y3 y4 y5 y6 f0 f1 f2 f3 f4 f5 f6 x6;generalize ((((((W2.setCell ⟨g6,0,none⟩ (.slice none 0 0)).setCell ⟨g6,1,none⟩ (.int .i64 0)).setCell ⟨g6,2,none⟩ (.int .i64 0)).setCell ⟨g6,3,none⟩ (.slice none 0 0)).setCell ⟨g6,4,none⟩ (.int .i64 0)).setCell ⟨g6,5,none⟩ (.int .i64 0)).setCell ⟨g6,6,none⟩ (.slice none 0 0)=W9 at *;obtain⟨z0,z1,z2,z3,z4,z5,z6⟩:=box7_cells k
  try simp only[Exit.inBlock,Exit.then]
  refine bodyPost_ret (v:=.tuple #[.agg #[.slice none 0 0,.int .i64 0,.int .i64 0,.slice none 0 0,.int .i64 0,.int .i64 0,.slice none 0 0],.slice none 0 0,.int .i64 rc]) (by simp[results,results63,go_sem,z0,z1,z2,z3,z4,z5,z6]) rfl ?_;exact dans_bad hr.out kb.out
 subst E2;rw[if_pos rfl] at hD;obtain⟨hy1,hy2,hyl⟩:=hal9.out rfl;replace hyl:=lhd hyl;have hwn:=lhd (fun W=>dwindow_any A2 P.length c2 A3 S.length c3 f t W);have hin:=lhd (fun W=>inside_any lo hi f t W);have K:Hid (∀W,Below W2.heap.size W2 W->W.cell? ⟨g3,3,none⟩=some (.slice A2 P.length c2)/\W.cell? ⟨g3,4,none⟩=some (.int .i64 f)/\W.cell? ⟨g3,5,none⟩=some (.int .i64 t)/\W.cell? ⟨g3,6,none⟩=some (.slice A3 S.length c3)/\W.cell? ⟨g5,0,none⟩=some (.int .i64 lo)/\W.cell? ⟨g5,1,none⟩=some (.int .i64 hi)):=fun W hW=>⟨(x3.below hW).cell 3,(x3.below hW).cell 4,(x3.below hW).cell 5,(x3.below hW).cell 6,(x5.below hW).cell 0,(x5.below hW).cell 1⟩
 obtain⟨k0,k1,k2,k3,k4,k5⟩:=K.out W2 (Below.refl _ _);generalize hI:inS lo hi f t=I at *;replace hI:=lhd hI;replace x5:=lhd x5
 go_wp2_with fail
 go_cut [41] (fun v W=>v=.bool (!I)/\Hid (Below W2.heap.size W2 W))
 case first=>
  clear x3 x5 x6 x11
  go_region_held3 (fun W':World=>W'.cell? ⟨g3,3,none⟩=some (.slice A2 P.length c2)/\W'.cell? ⟨g3,4,none⟩=some (.int .i64 f)/\W'.cell? ⟨g3,5,none⟩=some (.int .i64 t)/\W'.cell? ⟨g3,6,none⟩=some (.slice A3 S.length c3)/\W'.cell? ⟨g5,0,none⟩=some (.int .i64 lo)/\W'.cell? ⟨g5,1,none⟩=some (.int .i64 hi))
   (first | (with_reducible exact K.out _ hb9) | (with_reducible exact K.out _ hb8) | exact K.out _ (by (repeat (first | exact Below.refl _ _ | (refine bgo ?_ (balloc _ _)) | (refine bgo ?_ (bdrew _)) | (refine bgo ?_ (by assumption))))) | (go_keep;done))
   (first
    | (go_at_call 55;(with_reducible refine (hin.out w8).mono ?_);rintro e w9 ⟨rfl,hb9⟩
       replace hb9:=bgo hb8 hb9)
    | (go_at_call 128;(with_reducible refine (hwn.out W2.drew).mono ?_);rintro e w8 ⟨rfl,hb8⟩
       replace hb8:=bgo (bdrew W2) hb8)
    | (go_at_call 128;(with_reducible refine (hwn.out W2).mono ?_);rintro e w8 ⟨rfl,hb8⟩))
  all_goals
   go_wp2_with fail
   go_meet
   exact⟨rfl,hb9⟩
 case rest=>
 obtain⟨rfl,hb9⟩:=hcut;obtain⟨w4,rfl⟩:∃w4:World,w4=wc:=⟨_,rfl⟩
 replace x6:=x6.below hb9.out;replace x11:=x11.below hb9.out;replace sc:=lhd (seesB_of sc.out nlr hb9.out);replace o12:=lhd (o12.out.below hb9.out);replace el:=lhd (el.out.below hb9.out);replace hb12:=lhd (bgo hb12.out hb9.out);replace hbw:=lhd (bgo hbw.out hb9.out);have hg11:Hid (w2.heap.size<=g11):=by show _<=_;rw[hG11.out];exact Nat.le_refl _
 have h4g:Hid (g11<w4.heap.size):=x11.lt;clear k0 k1 k2 k3 k4 k5 K hwn hin x3 x5 sn su;cases I with
 | false=>
   have hr:Hid (dansR sd h n P f t S ns lo hi=(noGrant,[],25)):=by show _=_;rw[hD.out];rfl
   clear x11;obtain⟨y0,y1,y2,y3,y4,y5,y6⟩:=box7_cells x6;obtain⟨f0,f1,f2,f3,f4,f5,f6⟩:=box7_soft x6
   go_wp2_with fail
   have k:=box_set7 x6 (.slice none 0 0) (.int .i64 0) (.int .i64 0) (.slice none 0 0) (.int .i64 0) (.int .i64 0) (.slice none 0 0);have kb:=lhd (below_set7 hbw.out hg6.out (.slice none 0 0) (.int .i64 0) (.int .i64 0) (.slice none 0 0) (.int .i64 0) (.int .i64 0) (.slice none 0 0));clear y0 y1 y2 y3 y4 y5 y6 f0 f1 f2 f3 f4 f5 f6 x6;generalize ((((((w4.setCell ⟨g6,0,none⟩ (.slice none 0 0)).setCell ⟨g6,1,none⟩ (.int .i64 0)).setCell ⟨g6,2,none⟩ (.int .i64 0)).setCell ⟨g6,3,none⟩ (.slice none 0 0)).setCell ⟨g6,4,none⟩ (.int .i64 0)).setCell ⟨g6,5,none⟩ (.int .i64 0)).setCell ⟨g6,6,none⟩ (.slice none 0 0)=W9 at *;obtain⟨z0,z1,z2,z3,z4,z5,z6⟩:=box7_cells k
   try simp only[Exit.inBlock,Exit.then]
   refine bodyPost_ret (v:=.tuple #[.agg #[.slice none 0 0,.int .i64 0,.int .i64 0,.slice none 0 0,.int .i64 0,.int .i64 0,.slice none 0 0],.slice none 0 0,.int .i64 25]) (by simp[results,results63,go_sem,z0,z1,z2,z3,z4,z5,z6]) rfl ?_;exact dans_bad hr.out kb.out
 | true=>
 replace hD:Hid (dansR sd h n P f t S ns lo hi=if wrapOk C ys=true then (((rs,rh,rn),(P,f,t,S)),ys.map (wrapB C),0) else (noGrant,[],2)):=by show _=_;rw[hD.out,if_pos rfl]
 obtain⟨gA,rfl⟩:=o12.out.at_ (by omega);have hgA:=hlt2.out gA rfl;have hn11:gA≠g11:=by have:=hG11.out;omega
 have hsz4:Hid (w2.heap.size<=w4.heap.size):=by show _<=_;have:=hG11.out;have:=h4g.out;omega
 have hnm:=lhd (dnames_eq w4);have xN:=Box.new (w4.alloc (.cells #[.string ⟨#[75,69,89,83]⟩,.string ⟨#[83,73,71,78]⟩,.string ⟨#[83,80,65,78]⟩] 9)) 9 [.string ⟨#[65,78,83,87]⟩,.string ⟨#[67,69,82,84]⟩];rw[xsa] at xN;change Box ((w4.alloc (.cells #[.string ⟨#[75,69,89,83]⟩,.string ⟨#[83,73,71,78]⟩,.string ⟨#[83,80,65,78]⟩] 9)).alloc (.cells #[.string ⟨#[65,78,83,87]⟩,.string ⟨#[67,69,82,84]⟩] 9)) _ _ _ at xN;have hbN:=bgo (balloc w4 (.cells #[.string ⟨#[75,69,89,83]⟩,.string ⟨#[83,73,71,78]⟩,.string ⟨#[83,80,65,78]⟩] 9)) (balloc _ (.cells #[.string ⟨#[65,78,83,87]⟩,.string ⟨#[67,69,82,84]⟩] 9));replace x6:=x6.below hbN;replace x11:=x11.below hbN;replace o12:=lhd (o12.out.below hbN);replace el:=lhd (el.out.below hbN);replace hb12:=lhd (bgo hb12.out hbN);replace hbw:=lhd (bgo hbw.out hbN);have hnN:gA≠w4.heap.size+1:=by have:=h4g.out;omega
 replace hgA:=lhd hgA;replace hn11:=lhd hn11;replace hnN:=lhd hnN;have hlt:(0:Int)<(ys.length:Int):=by omega
 go_wp2_with fail
 refine hnm.out.mono ?_;rintro e w5 ⟨rfl,hw5⟩;subst hw5;dsimp only
 go_upto_region 10 with (fail)
 generalize (w4.alloc (.cells #[.string ⟨#[75,69,89,83]⟩,.string ⟨#[83,73,71,78]⟩,.string ⟨#[83,80,65,78]⟩] 9)).alloc (.cells #[.string ⟨#[65,78,83,87]⟩,.string ⟨#[67,69,82,84]⟩] 9)=W5 at *;generalize w4.heap.size+1=gN at *;clear hnm hbN;replace x6:=lhd x6;replace x11:=lhd x11;replace xN:=lhd xN
 go_wp2_with fail
 go_loopw [55] (fun tt wr=>∃k:Nat,k<=ys.length/\tt=.int .i64 k/\Hid (OwnL wr w1.heap.size (.slice (some ⟨gA,0,none⟩) ys.length c12) (mixL C ys k))/\Hid (Below w1.heap.size w1 wr)/\Hid (Box wr g11 27 [.slice A7 rs.length c7,.int .i64 rh,.int .i64 rn])/\Hid (Box wr gN 9 [.string ⟨#[65,78,83,87]⟩,.string ⟨#[67,69,82,84]⟩])/\Hid (Elt wr (.slice (some ⟨gA,0,none⟩) ys.length c12) (.slice A7 rs.length c7) rs)/\Hid (wrapOk C (ys.take k)=true)) (fun tt _=>ys.length - (intOf tt).toNat)
 case atStart=>exact⟨0,by omega,rfl,by rw[mixL_zero];exact o12.out,hb12.out,x11.out,xN.out,el.out,rfl⟩
 case round=>
  obtain⟨k,hk,rfl,ho,hb,hx11,hxN,hel,hok⟩:=hrel
  by_cases hlt9:k<ys.length
  ·have i0:(k:Int)<(ys.length:Int):=by omega
   have hml:=mixL_len C ys k hk;obtain⟨b6,o6,e6,hb6,hcell⟩:=ho.out.sees.at_ (by rw[hml];omega);obtain⟨A',c',y1,-,-,sy⟩:=hcell k (by rw[hml];exact hlt9);injection e6 with e6;injection e6 with e61 e62;subst e61;subst e62;rw[Nat.zero_add] at y1;rw[mixL_get C ys k hlt9] at y1 sy;have hdk:ys[k]?=some (ys.getD k []):=by rw[xgd,xge hlt9];rfl
   have hmem:ys.getD k []∈ys:=List.mem_of_getElem? hdk;have hal:=(hyl.out _ hmem).1;have hst:=lhd (mixL_step C ys k _ hdk);have hws:=lhd (wrapOk_step C ys k _ hdk);generalize ys.getD k []=a at *;obtain⟨⟨zc,hzc⟩,hzf⟩:=ho.out.cell (k:=k) (by rw[hml];exact hlt9);have sa:=seesB_of sy nlr (Below.refl _ _);have sC:=seesB_of sc1.out nlr hb.out;have hnA:=namesA_box hxN.out;have hla:=balloc wr (.cells #[.slice A' a.length c',.slice A9 C.length c9] 25);have hL:=seesL_lit wr 25 (vs:=[.slice A' a.length c',.slice A9 C.length c9]) (ls:=[a,C]) ⟨sa,sC,trivial⟩ (by simp[maxLen]);have hms:=message_any _ _ _ namesA [a,C] _ ((hnA.below hla).more hla.size) hL nlr rfl (by simp[namesA]) (by
    have h1:=hcl.out;simp only[namesA,List.zip_cons_cons,List.zip_nil_right,dataT,xmp,List.map_nil,xfc,List.flatten_nil,xla,List.length_nil]
    omega)
   rw[wrap_zip] at hms;unfold EncP at hms;have hwb:Hid (wrapB C a=encT (wrapT a C)):=rfl;have hj0:(0:Int)<=(k:Int):=by omega
   replace hms:=lhd hms;replace hmem:=lhd hmem;replace hdk:=lhd hdk;replace hml:=lhd hml;clear hL sa sC hnA sy hcell hzc hzf
   go_wp2_with fail
   refine hms.out.mono ?_;rintro e w7 ⟨v8,rfl,o8,hb7⟩;generalize encT (wrapT a C)=AB at *;obtain⟨A8,c8,rfl,-,-⟩:=o8.sees.mk_;have hb8:=bgo hla hb7;have ho8:=ho.out.below hb8;obtain⟨⟨zc,hzc⟩,hzf⟩:=ho8.cell (k:=k) (by rw[hml.out];exact hlt9);have hel8:=Elt.of_from (v:=.slice (some ⟨gA,0,none⟩) ys.length c12) o8.sees o8.from (fun q hq=>by cases hq;exact ((ho.out.below hla).lt gA rfl).2)
   obtain⟨hos,hbs⟩:=ho8.set (k:=k) (by rw[hml.out];exact hlt9) hel8;have hgr:=setCell_grown w7 gA k (.slice A8 AB.length c8);have hx11':=lhd ((hx11.out.below hb8).other (j:=k) (v:=.slice A8 AB.length c8) hn11.out.symm);have hxN':=lhd ((hxN.out.below hb8).other (j:=k) (v:=.slice A8 AB.length c8) hnN.out.symm);have hel':Hid (Elt (w7.setCell ⟨gA,k,none⟩ (.slice A8 AB.length c8)) (.slice (some ⟨gA,0,none⟩) ys.length c12) (.slice A7 rs.length c7) rs):=⟨(hel.out.below hb8).grown hgr,hel.out.2⟩
   have hbk:=lhd ((hb.out.trans (hb8.mono hb.out.size)).trans hbs);replace hos:Hid (OwnL (w7.setCell ⟨gA,k,none⟩ (.slice A8 AB.length c8)) w1.heap.size (.slice (some ⟨gA,0,none⟩) ys.length c12) (mixL C ys (k+1))):=by
    show OwnL _ _ _ _;rw[<-hst.out,hwb.out];exact hos
   have hwC:=hws.out;clear hms hla hb7 hb8 ho8 hel8 hbs hgr o8 y1;dsimp only
   by_cases E8:encC (wrapT a C)=0
   ·have hok':Hid (wrapOk C (ys.take (k+1))=true):=by show _=_;rw[hwC,hok.out,E8];rfl
    rw[E8];replace E8:=lhd E8;replace hwC:=lhd hwC
    go_wp2_with fail
    go_roundw
    case rel=>first | exact⟨k+1,by omega,by go_num,hos,hbk,hx11',hxN',hel',hok'⟩ | ((repeat apply Exists.intro);exact⟨⟨k+1,by omega,by go_num,hos,hbk,hx11',hxN',hel',hok'⟩,rfl⟩)
    case measure=>simp[intOf];omega
   have hr:Hid (dansR sd h n P f t S ns lo hi=(noGrant,[],2)):=by show _=_;rw[hD.out,wrapOk_false hmem.out E8];rfl
   have hE:(encC (wrapT a C) == 0)=false:=by simp[E8]
   generalize encC (wrapT a C)=E at *;replace E8:=lhd E8;replace hwC:=lhd hwC;have x6:=below_boxB hbk.out x61.out z6.out;replace hbw:=lhd (hw1w.out.trans (hbk.out.mono hw1w.out.size))
   go_upto_region 15 with (fail)
   clear hzc hzf;generalize w7.setCell ⟨gA,k,none⟩ (.slice A8 AB.length c8)=W7 at *;obtain⟨y0,y1,y2,y3,y4,y5,y6⟩:=box7_cells x6;obtain⟨f0,f1,f2,f3,f4,f5,f6⟩:=box7_soft x6
   go_wp2_with fail
   have k:=box_set7 x6 (.slice none 0 0) (.int .i64 0) (.int .i64 0) (.slice none 0 0) (.int .i64 0) (.int .i64 0) (.slice none 0 0);have kb:=lhd (below_set7 hbw.out hg6.out (.slice none 0 0) (.int .i64 0) (.int .i64 0) (.slice none 0 0) (.int .i64 0) (.int .i64 0) (.slice none 0 0));clear y0 y1 y2 y3 y4 y5 y6 f0 f1 f2 f3 f4 f5 f6 x6;generalize ((((((W7.setCell ⟨g6,0,none⟩ (.slice none 0 0)).setCell ⟨g6,1,none⟩ (.int .i64 0)).setCell ⟨g6,2,none⟩ (.int .i64 0)).setCell ⟨g6,3,none⟩ (.slice none 0 0)).setCell ⟨g6,4,none⟩ (.int .i64 0)).setCell ⟨g6,5,none⟩ (.int .i64 0)).setCell ⟨g6,6,none⟩ (.slice none 0 0)=W9 at *;obtain⟨z0,z1,z2,z3,z4,z5,z6⟩:=box7_cells k
   try simp only[Exit.inBlock,Exit.then]
   refine bodyPost_ret (v:=.tuple #[.agg #[.slice none 0 0,.int .i64 0,.int .i64 0,.slice none 0 0,.int .i64 0,.int .i64 0,.slice none 0 0],.slice none 0 0,.int .i64 2]) (by simp[results,results63,go_sem,z0,z1,z2,z3,z4,z5,z6]) rfl ?_;exact dans_bad hr.out kb.out
  obtain rfl:k=ys.length:=by omega
  have i0:¬(ys.length:Int)<(ys.length:Int):=by omega
  rw[xtl nlr] at hok;have hr:Hid (dansR sd h n P f t S ns lo hi=(((rs,rh,rn),(P,f,t,S)),ys.map (wrapB C),0)):=by show _=_;rw[hD.out,if_pos hok.out]
  rw[mixL_all] at ho;have x6:=below_boxB hb.out x61.out z6.out;have x3:=below_boxB hb.out x31.out z3.out;replace hbw:=lhd (hw1w.out.trans (hb.out.mono hw1w.out.size));have kg:=lhd (kgranted2_any _ A sd.length c A7 rs.length c7 _ _ h n rh rn P S f t wr (seesB_of sP1.out nlr hb.out) (seesB_of sS1.out nlr hb.out) nlr (by have:=hP9.out;omega) (by have:=hS9.out;omega));obtain⟨q0,q1,q2,q3,q4,q5,q6⟩:=box7_cells x3;obtain⟨e0,e1,e2,-,-,-⟩:=box3_cells hx11.out
  go_wp2_with fail
  refine kg.out.mono ?_;rintro e w9 ⟨v2',v3',rfl,m2,m3,hb9'⟩;obtain⟨B2,d2,rfl,-,-⟩:=m2.mk_;obtain⟨B3,d3,rfl,-,-⟩:=m3.mk_;replace x6:=x6.below hb9';replace hbw:=lhd (bgo hbw.out hb9');have m1:=(hel.out.below hb9').1;have m4:=ho.out.below hb9';clear q0 q1 q2 q3 q4 q5 q6 e0 e1 e2 kg x3;obtain⟨y0,y1,y2,y3,y4,y5,y6⟩:=box7_cells x6;obtain⟨f0,f1,f2,f3,f4,f5,f6⟩:=box7_soft x6;dsimp only
  go_wp2_with fail
  have k:=box_set7 x6 (.slice A7 rs.length c7) (.int .i64 rh) (.int .i64 rn) (.slice B2 P.length d2) (.int .i64 f) (.int .i64 t) (.slice B3 S.length d3);have k1:=lhd (sees_set7 x6 noZ7 (.slice A7 rs.length c7) (.int .i64 rh) (.int .i64 rn) (.slice B2 P.length d2) (.int .i64 f) (.int .i64 t) (.slice B3 S.length d3) m1);have k2:=lhd (sees_set7 x6 noZ7 (.slice A7 rs.length c7) (.int .i64 rh) (.int .i64 rn) (.slice B2 P.length d2) (.int .i64 f) (.int .i64 t) (.slice B3 S.length d3) m2);have k3:=lhd (sees_set7 x6 noZ7 (.slice A7 rs.length c7) (.int .i64 rh) (.int .i64 rn) (.slice B2 P.length d2) (.int .i64 f) (.int .i64 t) (.slice B3 S.length d3) m3);have k4:=lhd (SeesL.set7 x6 noZ7 nlr (fun q hq=>by cases hq;show gA≠g6;have:=(m4.lt gA rfl).1;have:=z6.out;omega) (.slice A7 rs.length c7) (.int .i64 rh) (.int .i64 rn) (.slice B2 P.length d2) (.int .i64 f) (.int .i64 t) (.slice B3 S.length d3) m4.sees);have kb:=lhd (below_set7 hbw.out hg6.out (.slice A7 rs.length c7) (.int .i64 rh) (.int .i64 rn) (.slice B2 P.length d2) (.int .i64 f) (.int .i64 t) (.slice B3 S.length d3));have hzs:Hid ((((((((w9.setCell ⟨g6,0,none⟩ (.slice A7 rs.length c7)).setCell ⟨g6,1,none⟩ (.int .i64 rh)).setCell ⟨g6,2,none⟩ (.int .i64 rn)).setCell ⟨g6,3,none⟩ (.slice B2 P.length d2)).setCell ⟨g6,4,none⟩ (.int .i64 f)).setCell ⟨g6,5,none⟩ (.int .i64 t)).setCell ⟨g6,6,none⟩ (.slice B3 S.length d3)).heap.size=w9.heap.size):=by show _=_;simp[World.setCell]
  clear y0 y1 y2 y3 y4 y5 y6 f0 f1 f2 f3 f4 f5 f6 x6;generalize ((((((w9.setCell ⟨g6,0,none⟩ (.slice A7 rs.length c7)).setCell ⟨g6,1,none⟩ (.int .i64 rh)).setCell ⟨g6,2,none⟩ (.int .i64 rn)).setCell ⟨g6,3,none⟩ (.slice B2 P.length d2)).setCell ⟨g6,4,none⟩ (.int .i64 f)).setCell ⟨g6,5,none⟩ (.int .i64 t)).setCell ⟨g6,6,none⟩ (.slice B3 S.length d3)=W9 at *;obtain⟨z0,z1,z2,z3',z4,z5,z6'⟩:=box7_cells k;refine bodyPost_ret (v:=.tuple #[.agg #[.slice A7 rs.length c7,.int .i64 rh,.int .i64 rn,.slice B2 P.length d2,.int .i64 f,.int .i64 t,.slice B3 S.length d3],.slice (some ⟨gA,0,none⟩) ys.length c12,.int .i64 0]) (by simp[results,results63,go_sem,z0,z1,z2,z3',z4,z5,z6']) rfl ?_;exact dans_ok hr.out k1.out k2.out k3.out (by rw[hzs.out];exact k4.out) kb.out
end Go.Proofs.YtjgepckncogdaaaGreat
