/- Contracts of functions, walks, plain facts. Conditions: those of each theorem. -/
import Derived.Test.YtjgepckncogdaaaGreatTCtZ
import Derived.Test.YtjgepckncogdaaaGreatVKChain2
import Derived.Test.YtjgepckncogdaaaGreatTCtQ
set_option linter.unusedVariables false
set_option linter.unusedSimpArgs false
set_option maxRecDepth 100000
set_option maxHeartbeats 16000000
namespace Go.Proofs.YtjgepckncogdaaaGreat
open Go Go.RowKit _root_.Go.Proofs.Tryz
attribute [local go_sem ↓] Go.wp_at_zero Go.wp_at_succ
def VoiOk (v f truth:Int) (ts:List VoiT):Prop:=
 ∀j,j<ts.length->(voiT ts j).2.1.length=1/\(∀c∈(voiT ts j).2.1,c.2.1.length<=1048576/\c.2.2.2.2.length<=1048576)/\(f<=(j:Int)->∃a b,(voiT ts j).2.1=honL v ((a,b) :: []) 1/\-100+truth<=a/\a<=(voiT ts j).2.2.1/\(voiT ts j).2.2.1<=truth/\truth<=(voiT ts j).2.2.2/\(voiT ts j).2.2.2<=b/\b<=truth+100)
theorem voi_snoc (ts:List VoiT) (t:VoiT) (j:Nat):voiT (ts++t :: []) j=if j<ts.length then voiT ts j else if j=ts.length then t else noVoi:=by
 unfold voiT;rw[xgd,xgd]
 by_cases h:j<ts.length
 ·rw[if_pos h,xal h]
 rw[if_neg h,xar (by omega)]
 by_cases h2:j=ts.length
 ·rw[if_pos h2,h2];simp
 rw[if_neg h2,List.getElem?_eq_none (by simp;omega)];rfl
theorem VoiOk.snoc {v f truth:Int} {ts:List VoiT} (h:VoiOk v f truth ts) {t:VoiT} (h1:t.2.1.length=1) (h2:∀c∈t.2.1,c.2.1.length<=1048576/\c.2.2.2.2.length<=1048576) (h3:f<=(ts.length:Int)->∃a b,t.2.1=honL v ((a,b) :: []) 1/\-100+truth<=a/\a<=t.2.2.1/\t.2.2.1<=truth/\truth<=t.2.2.2/\t.2.2.2<=b/\b<=truth+100):VoiOk v f truth (ts++t :: []):=by
 intro j hj;rw[xla] at hj;rw[voi_snoc]
 by_cases h:j<ts.length
 ·rw[if_pos h];rename_i h0;exact h0 j h
 have:j=ts.length:=by simp at hj;omega
 subst this;rw[if_neg h,if_pos rfl];exact⟨h1,h2,h3⟩
def VoicesP (g:Nat) (u:Value) (l:List Int) (v:Int) (n:Nat) (f truth:Int) (w:World) (e:Ending) (w':World):Prop:=
 ∃v1 v2 ts k R,e=.returned (.tuple #[v1,v2])/\OwnV w' w.heap.size v1 ts/\ts.length=n/\SeesB w' w'.heap.size v2 R/\(0<n->R=keyG (seedC v 0) 0)/\VoiOk v f truth ts/\TapeAt w' g u l k/\w.grownBy w' (some g)
theorem voice_info:(prog.info? 85).map (fun i=>(i.zero,i.size,i.bytes))=some (some (.agg #[.slice none 0 0,.int .i64 0,.int .i64 0]),3,40):=by kernel_rfl
theorem tape_set1V {W:World} {g g4 j:Nat} {u:Value} {l:List Int} {k:Nat} (h:TapeAt W g u l k) (hg:g<g4) (y:Value):TapeAt (W.setCell ⟨g4,j,none⟩ y) g u l k:=by
 obtain⟨h1,h2,h3⟩:=h;exact⟨h1.other (by omega),Sees.below h2 ((Below.refl g W).setCell (p:=⟨g4,j,none⟩) (Nat.le_of_lt hg) y),h3⟩
theorem sees_til {W:World} {g j G n c:Nat} {A:Option Addr} {v:Value} {l:Bs} (h:SeesB W W.heap.size (.slice A n c) l) (hA:∀a,A=some a->a.block<G) (hg:G<=g):SeesB (W.setCell ⟨g,j,none⟩ v) (W.setCell ⟨g,j,none⟩ v).heap.size (.slice A n c) l:=by
 refine SeesB.more (SeesB.stay h fun hl k hk p hp=>World.cell?_setCell_other W _ p v fun e=>?_) (by simp[World.setCell]);cases A with
 | none=>cases hk
 | some a=>
   have h1:=hA a rfl;have h2:a.block=k:=by
    obtain⟨b,o,e1,-,-⟩:=Sees.at_ (by obtain⟨A',c',e',-,-⟩:=SeesB.mk_ h;cases e';exact h) (List.length_pos_iff.2 hl);cases e1;cases hk
    rfl
   have h3:p.block=g:=by rw[<-e]
   omega
theorem tbool_any (g:Nat) (u:Value) (l:List Int) (k:Nat) (n:Int) (w:World) (h:TapeAt w g u l k) (hn:1<=n) (hn2:n<=1048576) :
 Calls prog 106 #[.pointer (some ⟨g,0,none⟩),.int .i64 n] w fun e w'=>∃b,TapeP g u l (stepK l k) (.bool b) w e w':=by
 have hin:=lhd (tint_any g u l k n w h hn hn2);have iw:IntKind.i64.wrap (n - 1)=n - 1:=by rw[xwi];omega
 generalize l.getD k 0 % n=y at *;clear h
 go_enter func106,ntmps106
 go_wp2_with fail
 refine hin.out.mono ?_;rintro e w1 ⟨rfl,h1,hg1⟩;replace h1:=lhd h1;dsimp only
 go_wp2_with fail
 go_returns
 exact⟨_,rfl,h1.out,hg1⟩
def VoA (wr:World) (g g15 g16:Nat) (u:Value) (l:List Int) (f truth:Int) (i:Nat) (W:World):Prop:=
 ∃lo hi a b k,Box W g15 24 [.int .i64 lo,.int .i64 hi]/\Box W g16 24 [.int .i64 a,.int .i64 b]/\TapeAt W g u l k/\wr.grownBy W (some g)/\vS a b=true/\(f<=(i:Int)->-100+truth<=a/\a<=lo/\lo<=truth/\truth<=hi/\hi<=b/\b<=truth+100)
def VoB (wr:World) (g g15 G:Nat) (u:Value) (l:List Int) (v f:Int) (a b lo hi:Int) (i:Nat) (v17 v18:Value) (W:World):Prop:=
 ∃cs k,OwnRF W G 70 v17 5 1 (certS cs)/\cs.length=1/\(∀c∈cs,c.2.1.length<=1048576/\c.2.2.2.2.length<=1048576)/\(f<=(i:Int)->cs=honL v ((a,b) :: []) 1)/\SeesB W W.heap.size v18 (keyG (seedC v 0) 0)/\Box W g15 24 [.int .i64 lo,.int .i64 hi]/\TapeAt W g u l k/\wr.grownBy W (some g)/\G<=W.heap.size
theorem voices_any (g:Nat) (u:Value) (l:List Int) (k0:Nat) (v:Int) (n:Nat) (f truth:Int) (w:World) (ht:TapeAt w g u l k0) (hn:n<=64) (hf:0<=f) (t0:0<=truth) (t1:truth<=10000) :
 Calls prog 44 #[.pointer (some ⟨g,0,none⟩),.int .i64 v,.int .i64 (n:Int),.int .i64 f,.int .i64 truth] w (VoicesP g u l v n f truth w):=by
 obtain⟨ti,hti,htz,hts,htb⟩:=info_parts voice_info;replace hti:=lhd hti;replace htz:=lhd htz;replace hts:=lhd hts;replace htb:=lhd htb;have hgl:Hid (g<w.heap.size):=ht.1.lt;have hin:=lhd (fun (n:Int) (hn:1<=n) (hn2:n<=1048576) W k (h:TapeAt W g u l k)=>tint_any g u l k n W h hn hn2);have hbo:=lhd (fun (n:Int) (hn:1<=n) (hn2:n<=1048576) W k (h:TapeAt W g u l k)=>tbool_any g u l k n W h hn hn2);have hms:=lhd (fun (m:Int) (hm:0<m) k=>And.intro (Int.emod_nonneg (l.getD k 0) (show m≠0 by omega)) (Int.emod_lt_of_pos (l.getD k 0) hm));replace ht:=lhd ht
 go_enter func44,ntmps44
 go_wp2_with fail
 go_loopw [12,13,14] (fun o rt i wr=>∃(ts:List VoiT) (R:Bs) (k:Nat),ts.length<=n/\i=.int .i64 (ts.length:Int)/\Hid (OwnV wr w.heap.size o ts)/\Hid (SeesB wr wr.heap.size rt R)/\Hid (0<ts.length->R=keyG (seedC v 0) 0)/\Hid (VoiOk v f truth ts)/\Hid (TapeAt wr g u l k)/\Hid (w.grownBy wr (some g))) (fun _ _ i _=>n - (intOf i).toNat)
 case atStart=>exact⟨[],[],k0,by simp,rfl,OwnV.nil _ _,SeesB.nil _ _,fun h=>absurd h (by simp),fun j hj=>absurd hj (by simp),ht.out,grown_of_below (Below.refl _ _) _⟩
 case round=>
  obtain⟨ts,R,k,hk,rfl,hO,hR,hRk,hok,hT,hgw⟩:=hrel;obtain⟨Ao,co,rfl,-,-⟩:=(Sees.of_own hO.out.1).mk_;obtain⟨Ar,cr,rfl,-,-⟩:=hR.out.mk_
  by_cases hlt:ts.length<n
  ·have i0:((ts.length:Nat):Int)<(n:Int):=by omega
   have hz:Hid (g<wr.heap.size):=Nat.lt_of_lt_of_le hgl.out hgw.out.size;have h1:=lhd (hin.out 20 (by omega) (by omega) wr k hT.out);obtain⟨a1,a2⟩:=hms.out 20 (by omega) k;clear hR hRk
   go_wp2_with fail
   refine h1.out.mono ?_;rintro e w1 ⟨rfl,T1,g1⟩;have h2:=lhd (hin.out 20 (by omega) (by omega) w1 _ T1);obtain⟨b1,b2⟩:=hms.out 20 (by omega) (stepK l k);generalize l.getD k 0 % 20=xa at *;generalize stepK l k=kk1 at *;replace g1:=lhd g1;clear h1 T1 hT;dsimp only
   go_wp2_with fail
   refine h2.out.mono ?_;rintro e w2 ⟨rfl,T2,g2⟩;have gA:=ggo g1.out g2;generalize l.getD kk1 0 % 20=xb at *;have hal:=balloc w2 (.cells #[.int .i64 (truth - xa),.int .i64 (truth+xb)] 24);have x15:=Box.new w2 24 [.int .i64 (truth - xa),.int .i64 (truth+xb)];change Box (w2.alloc (.cells #[.int .i64 (truth - xa),.int .i64 (truth+xb)] 24)) _ _ _ at x15;have T3:=T2.grown hal;have gB:=lhd (ggo gA (grown_of_below hal (some g)));have hg15:Hid (wr.heap.size<=w2.heap.size):=gA.size;clear h2 g1 g2 gA T2 hal;dsimp only
   go_upto_region 7 with (fail)
   generalize w2.alloc (.cells #[.int .i64 (truth - xa),.int .i64 (truth+xb)] 24)=W3 at *;generalize w2.heap.size=g15 at *;have h3:=lhd (hin.out 30 (by omega) (by omega) W3 _ T3);obtain⟨c1,c2⟩:=hms.out 30 (by omega) (stepK l kk1);generalize stepK l kk1=kk2 at *;clear T3
   go_wp2_with fail
   refine h3.out.mono ?_;rintro e w4 ⟨rfl,T4,g4⟩;have h4:=lhd (hin.out 30 (by omega) (by omega) w4 _ T4);obtain⟨d1,d2⟩:=hms.out 30 (by omega) (stepK l kk2);generalize l.getD kk2 0 % 30=xc at *;generalize stepK l kk2=kk3 at *;have hne:Hid (g15≠g):=by have:=hg15.out;have:=hz.out;show _≠_;omega
   have x15':Box w4 g15 24 [.int .i64 (truth - xa),.int .i64 (truth+xb)]:=(g4.block g15 x15.lt (fun e=>hne.out (Option.some.inj e))).trans x15;replace gB:=lhd (ggo gB.out g4);clear h3 T4 g4 x15;dsimp only
   go_wp2_with fail
   refine h4.out.mono ?_;rintro e w5 ⟨rfl,T5,g5⟩;have x15:Box w5 g15 24 [.int .i64 (truth - xa),.int .i64 (truth+xb)]:=(g5.block g15 x15'.lt (fun e=>hne.out (Option.some.inj e))).trans x15';generalize l.getD kk3 0 % 30=xd at *;have gC:=ggo gB.out g5;have hal:=balloc w5 (.cells #[.int .i64 (truth - 20 - xc),.int .i64 (truth+20+xd)] 24);have x16:=Box.new w5 24 [.int .i64 (truth - 20 - xc),.int .i64 (truth+20+xd)];change Box (w5.alloc (.cells #[.int .i64 (truth - 20 - xc),.int .i64 (truth+20+xd)] 24)) _ _ _ at x16;have T6:=T5.grown hal;have gD:=ggo gC (grown_of_below hal (some g));have hne56:Hid (g15≠w5.heap.size):=Nat.ne_of_lt x15.lt;replace x15:=x15.below hal;have hg16:Hid (wr.heap.size<=w5.heap.size):=gC.size;clear h4 g5 gB gC x15' T5 hal;dsimp only
   go_upto_region 8 with (fail)
   generalize w5.alloc (.cells #[.int .i64 (truth - 20 - xc),.int .i64 (truth+20+xd)] 24)=W6 at *;generalize w5.heap.size=g16 at *;generalize hI:ts.length=i at *
   go_upto_if 46 with (fail)
   go_cut [] (fun W=>VoA wr g g15 g16 u l f truth i W)
   case first=>
    have hgg15:Hid (g<g15):=by have:=hg15.out;have:=hz.out;show _<_;omega
    have hgg16:Hid (g<g16):=by have:=hg16.out;have:=hz.out;show _<_;omega
    have hne6:Hid (g16≠g):=by have:=hgg16.out;show _≠_;omega
    by_cases hif:(i:Int)<f
    ·have h5:=lhd (hin.out 200 (by omega) (by omega) W6 _ T6)
     obtain⟨e1,e2⟩:=hms.out 200 (by omega) (stepK l kk3);generalize stepK l kk3=kk4 at *;clear T6
     go_wp2_with fail
     refine h5.out.mono ?_;rintro e w7 ⟨rfl,T7,g7⟩;have y15:Box w7 g15 24 [.int .i64 (truth - xa),.int .i64 (truth+xb)]:=(g7.block g15 x15.lt (fun e=>hne.out (Option.some.inj e))).trans x15;have y16:Box w7 g16 24 [.int .i64 (truth - 20 - xc),.int .i64 (truth+20+xd)]:=(g7.block g16 x16.lt (fun e=>hne6.out (Option.some.inj e))).trans x16;generalize l.getD kk4 0 % 200=p at *;have gE0:=ggo gD g7;obtain⟨k4,k5,f4,f5⟩:=box2_cells y15;have v15:=box_set2 y15 (.int .i64 p) (.int .i64 0);have v16:=(y16.other (G:=g15) (j:=0) (v:=.int .i64 p) hne56.out.symm).other (G:=g15) (j:=1) (v:=.int .i64 0) hne56.out.symm;have T8':=tape_set1V (j:=1) (tape_set1V (j:=0) T7 hgg15.out (.int .i64 p)) hgg15.out (.int .i64 0);have gE:=grown_appV (grown_appV gE0 (setCell_grown w7 g15 0 (.int .i64 p)) (fun j hj=>by cases hj;exact hg15.out)) (setCell_grown _ g15 1 (.int .i64 0)) (fun j hj=>by cases hj;exact hg15.out);clear h5 y15 y16 T7 g7 gE0 gD x15 x16;dsimp only
     go_upto_region 10 with (fail)
     clear k4 k5 f4 f5;generalize (w7.setCell ⟨g15,0,none⟩ (.int .i64 p)).setCell ⟨g15,1,none⟩ (.int .i64 0)=W8 at *;have x15d:=v15.below (bdrew W8);have x16d:=v16.below (bdrew W8);replace gE:=lhd (ggo gE (grown_of_below (bdrew W8) (some g)));have h6:=lhd (hin.out 30 (by omega) (by omega) W8.drew _ T8'.drew);obtain⟨q1,q2⟩:=hms.out 30 (by omega) (stepK l kk4);generalize stepK l kk4=kk5 at *;generalize l.getD kk5 0 % 30=q at *;have y15:=v15;clear T8' v15 v16;refine wp_region_J (fun W':World=>W'.cell? ⟨g15,0,none⟩=some (.int .i64 p)) 6 (by kernel_rfl) ?_ (fun hHeld=>?_)
     ·(try dsimp only);(first | exact (boxT2 y15).1 | exact (boxT2 x15d).1)
     refine wpAnyJ_take0 (i:=0) (v:=?_) rfl (by kernel_rfl) (by kernel_rfl) (by kernel_rfl) (fun _ _ _ h=>h) (by rfl) (Or.inl ⟨by rfl,?_⟩) (by assumption) ?_;rotate_left 1
     ·intro w hSw;(try dsimp only at hSw);go_simp<;>(try with_reducible rfl)
     try simp only[Act.put,xgt,List.getElem_cons_succ,xgz,xsb,xsz,xss]
     refine wpAnyJ_take (i:=1) (v:=?_) rfl (by kernel_rfl) (by kernel_rfl) (by kernel_rfl) (fun _ _ _ h=>h) (by rfl) rfl (by kernel_rfl) (by kernel_rfl) (Or.inl ⟨by rfl,?_⟩) (by assumption) ?_;rotate_left 1
     ·intro w hSw;(try dsimp only at hSw);go_simp<;>(try with_reducible rfl)
     try simp only[Act.put,xgt,List.getElem_cons_succ,xgz,xsb,xsz,xss]
     refine wpAnyJ_take0 (i:=2) (v:=?_) rfl (by kernel_rfl) (by kernel_rfl) (by kernel_rfl) (fun _ _ _ h=>h) (by rfl) (Or.inl ⟨by rfl,?_⟩) (by assumption) ?_;rotate_left 1
     ·intro w hSw;(try dsimp only at hSw);go_simp<;>(try with_reducible rfl)
     try simp only[Act.put,xgt,List.getElem_cons_succ,xgz,xsb,xsz,xss]
     refine wpAnyJ_ready (rs:=[3]) (by kernel_rfl) (by simp) ?_;refine AllReadyJ.cons (o:=_) rfl (fun Kq hKq=>?_) ?_
     ·go_simp
      go_at_call 37
      with_reducible refine h6.out.mono ?_
      rintro e w8 ⟨rfl,T8,g8⟩;have y15:Box w8 g15 24 [.int .i64 p,.int .i64 0]:=(g8.block g15 x15d.lt (fun e=>hne.out (Option.some.inj e))).trans x15d;have y16:Box w8 g16 24 [.int .i64 (truth - 20 - xc),.int .i64 (truth+20+xd)]:=(g8.block g16 x16d.lt (fun e=>hne6.out (Option.some.inj e))).trans x16d;obtain⟨k4,k5,f4,f5⟩:=box2_cells y15
      go_wp2_with fail
      refine hKq.out _ _ ?_ (fun hHeld=>?_)
      ·intro _;(try dsimp only);(first | exact (boxT2 y15).1 | exact (boxT2 x15d).1)
      clear hKq Kq
      try simp only[Act.put,xgt,List.getElem_cons_succ,xgz,xsb,xsz,xss]
      refine wpAnyJ_take0 (i:=4) (v:=?_) rfl (by kernel_rfl) (by kernel_rfl) (by kernel_rfl) (fun _ _ _ h=>h) (by rfl) (Or.inl ⟨by rfl,?_⟩) (by assumption) ?_;rotate_left 1
      ·intro w hSw;(try dsimp only at hSw);go_simp<;>(try with_reducible rfl)
      try simp only[Act.put,xgt,List.getElem_cons_succ,xgz,xsb,xsz,xss]
      refine wpAnyJ_take0 (i:=5) (v:=?_) rfl (by kernel_rfl) (by kernel_rfl) (by kernel_rfl) (fun _ _ _ h=>h) (by rfl) (Or.inl ⟨by rfl,?_⟩) (by assumption) ?_;rotate_left 1
      ·intro w hSw;(try dsimp only at hSw);go_simp<;>(try with_reducible rfl)
      try simp only[Act.put,xgt,List.getElem_cons_succ,xgz,xsb,xsz,xss]
      refine wpAnyJ_ready (rs:=[6]) (by kernel_rfl) (by simp) ?_;refine AllReadyJ.cons (o:=_) rfl (fun Kq hKq=>?_) ?_
      ·go_simp
       refine hKq.out _ _ ?_ (fun hHeld=>?_)
       ·intro hl;exact absurd hl (by decide)
       clear hKq Kq
       try simp only[Act.put,xgt,List.getElem_cons_succ,xgz,xsb,xsz,xss]
       refine wpAnyJ_done (by kernel_rfl) ?_ _;have z15:=y15.set 1 (.int .i64 (p+q));simp only[xsz,xss] at z15;have z16:=y16.other (G:=g15) (j:=1) (v:=.int .i64 (p+q)) hne56.out.symm;have T9:=tape_set1V (j:=1) T8 hgg15.out (.int .i64 (p+q));have g9:=grown_appV (ggo gE.out g8) (setCell_grown w8 g15 1 (.int .i64 (p+q))) (fun j hj=>by cases hj;exact hg15.out);clear k4 k5 f4 f5 hHeld y15 y16 T8 g8 x15d x16d
       go_wp2_with fail
       generalize w8.setCell ⟨g15,1,none⟩ (.int .i64 (p+q))=W9 at *;have h7:=lhd (hin.out 100 (by omega) (by omega) W9 _ T9);obtain⟨m1,m2⟩:=hms.out 100 (by omega) (stepK l kk5);generalize stepK l kk5=kk6 at *;clear T9;refine h7.out.mono ?_;rintro e w10 ⟨rfl,T10,g10⟩;have h8:=lhd (hin.out 200 (by omega) (by omega) w10 _ T10);obtain⟨s1,s2⟩:=hms.out 200 (by omega) (stepK l kk6);generalize l.getD kk6 0 % 100=ya at *;generalize stepK l kk6=kk7 at *;have y15:Box w10 g15 24 [.int .i64 p,.int .i64 (p+q)]:=(g10.block g15 z15.lt (fun e=>hne.out (Option.some.inj e))).trans z15;have y16:Box w10 g16 24 [.int .i64 (truth - 20 - xc),.int .i64 (truth+20+xd)]:=(g10.block g16 z16.lt (fun e=>hne6.out (Option.some.inj e))).trans z16;have gF:=ggo g9 g10;clear h7 z15 z16 g9 g10 T10;dsimp only
       go_wp2_with fail
       refine h8.out.mono ?_;rintro e w11 ⟨rfl,T11,g11⟩;generalize l.getD kk7 0 % 200=yb at *;have z15:Box w11 g15 24 [.int .i64 p,.int .i64 (p+q)]:=(g11.block g15 y15.lt (fun e=>hne.out (Option.some.inj e))).trans y15;have z16:Box w11 g16 24 [.int .i64 (truth - 20 - xc),.int .i64 (truth+20+xd)]:=(g11.block g16 y16.lt (fun e=>hne6.out (Option.some.inj e))).trans y16;have gG:=ggo gF g11;obtain⟨k4,k5,f4,f5⟩:=box2_cells z16;have v16:=box_set2 z16 (.int .i64 ya) (.int .i64 (100+yb));have v15:=(z15.other (G:=g16) (j:=0) (v:=.int .i64 ya) hne56.out).other (G:=g16) (j:=1) (v:=.int .i64 (100+yb)) hne56.out;have T12:=tape_set1V (j:=1) (tape_set1V (j:=0) T11 hgg16.out (.int .i64 ya)) hgg16.out (.int .i64 (100+yb));have gH:=grown_appV (grown_appV gG (setCell_grown w11 g16 0 (.int .i64 ya)) (fun j hj=>by cases hj;exact hg16.out)) (setCell_grown _ g16 1 (.int .i64 (100+yb))) (fun j hj=>by cases hj;exact hg16.out);have hvs:Hid (vS ya (100+yb)=true):=by show _=_;rw[vS_iff];omega
       have hfi:Hid (f<=(i:Int)->-100+truth<=ya/\ya<=p/\p<=truth/\truth<=p+q/\p+q<=100+yb/\100+yb<=truth+100):=fun h=>absurd h (by omega)
       clear h8 z15 z16 y15 y16 gF g11 gG T11;dsimp only
       go_wp2_with fail
       go_meet
       exact⟨p,p+q,ya,100+yb,_,v15,v16,T12,gH,hvs.out,hfi.out⟩
      exact AllReadyJ.nil
     exact AllReadyJ.nil
    have hvs:Hid (vS (truth - 20 - xc) (truth+20+xd)=true):=by show _=_;rw[vS_iff];omega
    have hfi:Hid (f<=(i:Int)->-100+truth<=truth - 20 - xc/\truth - 20 - xc<=truth - xa/\truth - xa<=truth/\truth<=truth+xb/\truth+xb<=truth+20+xd/\truth+20+xd<=truth+100):=fun h=>by omega
    go_wp2_with fail
    go_meet
    exact⟨_,_,_,_,_,x15,x16,T6,gD,hvs.out,hfi.out⟩
   case rest=>
    obtain⟨lo,hi,a,b,k6,x15,x16,T6,gD,hvs,hfi⟩:=hcut;obtain⟨WA,rfl⟩:∃W:World,W=wc:=⟨_,rfl⟩
    obtain⟨k0,k1⟩:=boxT2 x16;have hal:=balloc WA (.cells #[.int .i64 a,.int .i64 b] 24);have hss:SeesS (WA.alloc (.cells #[.int .i64 a,.int .i64 b] 24)) (WA.heap.size+1) (.slice (some ⟨WA.heap.size,0,none⟩) 1 1) ((a,b) :: []):=rec_lit WA 24 [.int .i64 a,.int .i64 b];have hcer:=lhd (kcerts2_any v (WA.heap.size+1) _ ((a,b) :: []) (WA.alloc (.cells #[.int .i64 a,.int .i64 b] 24)) hss (by rw[xsa];exact Nat.le_refl _) (by simp) (by simp) (fun k hk=>by
     obtain rfl:k=0:=by simp at hk;omega
     exact hvs))
    replace x15:=x15.below hal;replace T6:=T6.grown hal;replace gD:=ggo gD (grown_of_below hal (some g));replace hfi:=lhd hfi;clear x16 hss hal hvs
    go_wp2_with fail
    refine hcer.out.mono ?_;generalize WA.alloc (.cells #[.int .i64 a,.int .i64 b] 24)=WB at *;rintro e w7 ⟨v17,v18,G,rfl,oC0,rC,fC,hbC,hG1,hG2⟩;have oC:OwnRF w7 G 70 v17 5 1 (certS (honL v ((a,b) :: []) 1)):=oC0;obtain⟨g3,c3,rfl,hgb,hgl3,hc1,hc2⟩:=oC.at_ (by omega);obtain⟨A18,c18,rfl,-,-⟩:=SeesB.mk_ rC;have hA18:Hid (∀a,A18=some a->a.block<G):=fun a ha=>by
     obtain⟨b',o',e',hb',-⟩:=SeesB.at_ rC (by rw[keyG_len];omega);rw[e'] at ha;cases ha;exact hb'
    have rC':SeesB w7 w7.heap.size (.slice A18 (keyG (seedC v 0) 0).length c18) (keyG (seedC v 0) 0):=SeesB.more rC hG2;have hzB:wr.heap.size<=WB.heap.size:=gD.size;have fC':=lhd (fC.mono hzB);have hGz:Hid (wr.heap.size<=G):=Nat.le_trans hzB hG1;replace x15:=x15.below hbC;replace T6:=T6.grown hbC;replace gD:=ggo gD (grown_of_below hbC (some g));have hgG:Hid (g<G):=Nat.lt_of_lt_of_le hz.out hGz.out;have hgb':=lhd hgb;clear hcer oC0 rC fC hbC hG1 k0 k1 hgb hgl3 hc1 hc2 hzB;dsimp only
    go_upto_region 13 with (fail)
    go_cut [75] (fun v75 W=>∃bb kk,v75=.bool bb/\(bb=true->(i:Int)<f)/\OwnRF W G 70 (.slice (some ⟨g3,0,none⟩) 1 c3) 5 1 (certS (honL v ((a,b) :: []) 1))/\SeesB W W.heap.size (.slice A18 (keyG (seedC v 0) 0).length c18) (keyG (seedC v 0) 0)/\Box W g15 24 [.int .i64 lo,.int .i64 hi]/\TapeAt W g u l kk/\wr.grownBy W (some g)/\G<=W.heap.size)
    case first=>
     by_cases hif:(i:Int)<f
     ·have h5:=lhd (hbo.out 3 (by omega) (by omega) w7 _ T6)
      clear T6
      go_wp2_with fail
      refine h5.out.mono ?_;rintro e w8 ⟨bb,rfl,T8,g8⟩;have y15:Box w8 g15 24 [.int .i64 lo,.int .i64 hi]:=(g8.block g15 x15.lt (fun e=>hne.out (Option.some.inj e))).trans x15;dsimp only
      go_wp2_with fail
      go_meet
      exact⟨bb,_,rfl,fun _=>hif,oC.tape g8 hgG.out,sees_grown_far rC' fC'.out g8 (fun j hj=>by cases hj;exact hz.out),y15,T8,ggo gD g8,Nat.le_trans hG2 g8.size⟩
     go_wp2_with fail
     go_meet
     exact⟨false,_,rfl,fun h=>absurd h (by simp),oC,rC',x15,T6,gD,hG2⟩
    case rest=>
    clear oC rC' x15 T6 gD hG2;obtain⟨bb,k7,rfl,hbb,oC,rC,x15,T7,gE,hG2⟩:=hcut;obtain⟨WC,rfl⟩:∃W:World,W=wc:=⟨_,rfl⟩
    go_upto_if 75 with (fail)
    go_cut [] (fun W=>VoB wr g g15 G u l v f a b lo hi i (.slice (some ⟨g3,0,none⟩) 1 c3) (.slice A18 (keyG (seedC v 0) 0).length c18) W)
    case first=>
     have hel:∀c∈honL v ((a,b) :: []) 1,c.2.1.length<=1048576/\c.2.2.2.2.length<=1048576:=fun c hc=>by
      unfold honL at hc;rw[List.mem_map] at hc;obtain⟨k,-,rfl⟩:=hc;exact⟨by show (keyG _ _).length<=_;rw[keyG_len];omega,by show (sigG _ _ _ _).length<=_;rw[sigG_len];omega⟩
     have hcs:(honL v ((a,b) :: []) 1).length=1:=honL_len v _ 1;cases bb with
     | false=>
       go_wp2_with fail
       go_meet
       exact⟨_,_,oC,hcs,hel,fun _=>rfl,rC,x15,T7,gE,hG2⟩
     | true=>
       have hif:=hbb rfl;generalize honL v ((a,b) :: []) 1=cs at *;obtain⟨B0,d0,B1,d1,z0,z1,z2,z3,z4,ea⟩:=own_certV oC (by omega) 0 (by omega);have hf:=lhd (kflip_any _ _ (i:Int) (i:Int) WC ea.2.2.2.2.1.1 (hel _ (certT_mem cs 0 (by omega))).2);have hset:=lhd (certS_putV cs 0);have hbt:=hel _ (certT_mem cs 0 (by omega));have fz0:=oC.frozen (0 * 5+4);simp only[Nat.zero_mul,Nat.zero_add] at z0 z1 z2 z3 z4 fz0;have hgl3:g3<WC.heap.size:=by obtain⟨g3',c3',e3,_,h3,_⟩:=oC.at_ (by omega);cases e3;exact h3
       replace ea:=lhd ea;replace hbt:=lhd hbt
       go_wp2_with fail
       refine hf.out.mono ?_;rintro e6 w6 ⟨l',hl',v6,rfl,o6,hb6⟩;obtain⟨A6,c6,rfl,-,-⟩:=o6.sees.mk_;have k0:=(hb6.cell (p:=⟨g3,4,none⟩) hgl3).trans z4;have fz:=(oC.below hb6).frozen 4;have hgr:=setCell_grown w6 g3 4 (.slice A6 l'.length c6);have hp:=(oC.below hb6).put (j:=0 * 5+4) (s:=.byt l') (by omega) (EltS.of_from o6.sees o6.from (fun j hj=>by cases hj;exact hgl3)) (o6.from.mono hG2);rw[hset.out l' (by omega)] at hp;simp only[Nat.zero_mul,Nat.zero_add] at hp;have hne3:g15≠g3:=by
        have h1:Box WC g15 24 [.int .i64 lo,.int .i64 hi]:=x15;intro e;subst e
        have:=(boxT2 h1).1
        rw[z0] at this;cases this
       have y15:=(x15.below hb6).other (G:=g3) (j:=4) (v:=.slice A6 l'.length c6) hne3;have T8:=tape_set1V (j:=4) (T7.grown hb6) (Nat.lt_of_lt_of_le hgG.out hgb'.out) (.slice A6 l'.length c6);have gF:=grown_appV (ggo gE (grown_of_below hb6 (some g))) hgr (fun j hj=>by cases hj;exact Nat.le_trans hGz.out hgb'.out);have rD:SeesB (w6.setCell ⟨g3,4,none⟩ (.slice A6 l'.length c6)) (w6.setCell ⟨g3,4,none⟩ (.slice A6 l'.length c6)).heap.size (.slice A18 (keyG (seedC v 0) 0).length c18) (keyG (seedC v 0) 0):=sees_til (seesB_of rC nlr hb6) hA18.out hgb'.out;have hG3:G<=(w6.setCell ⟨g3,4,none⟩ (.slice A6 l'.length c6)).heap.size:=Nat.le_trans hG2 (Nat.le_trans hb6.size hgr.size);have hln:(cs.set 0 ((certT cs 0).1,(certT cs 0).2.1,(certT cs 0).2.2.1,(certT cs 0).2.2.2.1,l')).length=1:=by rw[List.length_set];exact hcs
       have hel2:=set_lenV (P:=fun c:CertG=>c.2.1.length<=1048576/\c.2.2.2.2.length<=1048576) hel 0 ((certT cs 0).1,(certT cs 0).2.1,(certT cs 0).2.2.1,(certT cs 0).2.2.2.1,l') ⟨hbt.out.1,by have:=hbt.out.2;dsimp only;omega⟩;have hdone:=lhd (show VoB wr g g15 G u l v f a b lo hi i (.slice (some ⟨g3,0,none⟩) 1 c3) (.slice A18 (keyG (seedC v 0) 0).length c18) (w6.setCell ⟨g3,4,none⟩ (.slice A6 l'.length c6)) from⟨_,_,hp,hln,hel2,fun h=>absurd h (by omega),rD,y15,T8,gF,hG3⟩);replace hl':=lhd hl';clear z0 z1 z2 z3 z4 hp hln hel2 rD y15 T8 gF hG3 hgr;dsimp only
       go_wp2_with fail
       go_meet
       exact hdone.out
    case rest=>
    clear oC rC x15 T7 gE hG2 hbb;obtain⟨cs,k8,oC,hcs,hel,hhon,rC,x15,T8,gE,hG2⟩:=hcut;obtain⟨WD,rfl⟩:∃W:World,W=wc:=⟨_,rfl⟩
    obtain⟨k0,k1⟩:=boxT2 x15;have hal:=balloc WD (.cells #[.slice (some ⟨g3,0,none⟩) 1 c3,.int .i64 lo,.int .i64 hi] 85);have hrec:Hid (Sees (WD.alloc (.cells #[.slice (some ⟨g3,0,none⟩) 1 c3,.int .i64 lo,.int .i64 hi] 85)) (WD.heap.size+1) (.slice (some ⟨WD.heap.size,0,none⟩) 1 1) 3 1 [.slice (some ⟨g3,0,none⟩) 1 c3,.int .i64 lo,.int .i64 hi]):=rec_lit WD 85 [.slice (some ⟨g3,0,none⟩) 1 c3,.int .i64 lo,.int .i64 hi];have hO2:=(hO.out.tape gE hgl.out).below hal;have hOlt:∀j,(Value.slice Ao i co).ownBlock=some j->j<wr.heap.size:=fun j hj=>by have:=hO.out.1;rw[hI] at this;exact (this.lt j hj).2
    have oC2:=oC.below hal;have gF:=ggo gE (grown_of_below hal (some g));have T9:=T8.grown hal;have rC2:=seesB_of rC nlr hal;have hzz:Hid (w.heap.size<=(WD.alloc (.cells #[.slice (some ⟨g3,0,none⟩) 1 c3,.int .i64 lo,.int .i64 hi] 85)).heap.size):=Nat.le_trans hgw.out.size gF.size;have hO3:=hO2.1;rw[hI] at hO3;replace hO3:=lhd hO3;clear oC x15 T8 gE hal rC
    go_wp2_with (at_builtin;refine wpList_append_sees (by rfl) _ _ 77 rfl w.heap.size 85 ti _ 3 40 underlying77 hti.out htz.out hts.out htb.out rfl (by omega) (.slice Ao i co) i _ rfl hO3.out _ _ 1 _ rfl hrec.out (by simp[Value.oneCell']) (by unfold maxLen;omega) (by omega) hzz.out ?_)
    intro v9 W9 o9 g9 d9;obtain⟨Bo,cb,rfl,-,-⟩:=(Sees.of_own o9).mk_;have hO9:=hO2.app (lo:=lo) (hi:=hi) (by rw[hcs];exact oC2) (Nat.le_trans hgw.out.size hGz.out) (fun j hj=>Nat.lt_of_lt_of_le (hOlt j hj) hGz.out) (by rw[hI];exact o9) g9 (by rw[xsa];exact d9);have hok9:=VoiOk.snoc hok.out (t:=(.slice (some ⟨g3,0,none⟩) 1 c3,cs,lo,hi)) hcs hel (fun h=>by
     rw[hI] at h;obtain⟨h1,h2⟩:=And.intro (hhon h) (hfi.out h);exact⟨a,b,h1,h2⟩)
    have r9:=sees_grown_far rC2 fC'.out g9 (fun j hj=>hOlt j hj);have T10:=T9.row g9 (fun j hj=>by have:=(hO3.out.lt j hj).1;have:=hgl.out;omega);have gG:=grown_appV (ggo hgw.out gF) g9 (fun j hj=>(hO3.out.lt j hj).1);have hlen:(ts++(Value.slice (some ⟨g3,0,none⟩) 1 c3,cs,lo,hi) :: []).length=i+1:=by rw[xla,hI];rfl
    generalize ts++(Value.slice (some ⟨g3,0,none⟩) 1 c3,cs,lo,hi) :: []=ts2 at *;replace hO9:=lhd hO9;replace hok9:=lhd hok9;replace r9:=lhd r9;replace T10:=lhd T10;replace gG:=lhd gG;have hlen':ts2.length<=n:=by omega
    have e1:((i:Nat):Int)+1=(ts2.length:Int):=by rw[hlen];omega
    have iwi:IntKind.i64.wrap ((i:Int)+1)=(i:Int)+1:=by rw[xwi];omega
    have iwj:(i:Int)<1000:=by omega
    replace e1:=lhd e1;replace hlen:=lhd hlen;replace hlen':=lhd hlen';clear i0;clear hO2 hO3 hOlt oC2 gF T9 rC2 o9 g9 d9 hrec k0 k1 hO hok hfi hhon hel hcs
    go_wp2_with fail
    go_roundw
    case rel=>exact⟨ts2,_,_,hlen'.out,by first | rfl | (rw[e1.out]) | (congr 1;have:=e1.out;omega),hO9,r9,fun _=>rfl,hok9,T10,gG⟩
    case measure=>have:=hlen.out;simp[intOf];omega
  have i0:¬((ts.length:Nat):Int)<(n:Int):=by omega
  have hkn:Hid (ts.length=n):=by show _=_;omega
  go_wp2_with fail
  go_returns
  exact⟨_,_,ts,k,R,rfl,hO.out,hkn.out,hR.out,fun h=>hRk.out (by rw[hkn.out];exact h),hok.out,hT.out,hgw.out⟩
end Go.Proofs.YtjgepckncogdaaaGreat
