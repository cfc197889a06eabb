/- Contracts of functions, walks, plain facts. Conditions: those of each theorem. -/
import Derived.Test.YtjgepckncogdaaaGreatZC2
set_option linter.unusedVariables false
set_option linter.unusedSimpArgs false
set_option maxRecDepth 100000
set_option maxHeartbeats 16000000
namespace Go.Proofs.YtjgepckncogdaaaGreat
open Go Go.RowKit _root_.Go.Proofs.Tryz
attribute [local go_sem ↓] Go.wp_at_zero Go.wp_at_succ
@[irreducible] def padZ:Bs:=List.replicate 2000 0
theorem padZ_eq:List.replicate 2000 (0:UInt8)=padZ:=by unfold padZ;rfl
theorem padZ_len:padZ.length=2000:=by rw[<-padZ_eq];exact List.length_replicate
def reqT (n:Bs):List (Bs × Bs):=[([78,79,78,67],n),([80,65,68,83],padZ)]
theorem tags2_lit (W:World) (T:TypeId) {v1 v2:Value} {b1 l1 b2 l2:Bs} (h1:SeesB W W.heap.size v1 l1) (h2:SeesB W W.heap.size v2 l2) :
 SeesR (W.alloc (.cells #[.string (strB b1),v1,.string (strB b2),v2] T)) (W.heap.size+1) (.slice (some ⟨W.heap.size,0,none⟩) 2 2) 2 2 (tagS [(b1,l1),(b2,l2)]):=by
 have hal:=balloc W (.cells #[.string (strB b1),v1,.string (strB b2),v2] T);have q1:=(h1.below hal).more (Nat.le_succ _);have q2:=(h2.below hal).more (Nat.le_succ _);refine⟨rfl,[.string (strB b1),v1,.string (strB b2),v2],⟨by simp,_,_,rfl,Nat.le_refl _,by unfold maxLen;omega,fun _=>⟨W.heap.size,0,rfl,by omega,fun j u hj=>by have:=(Box.new W T [.string (strB b1),v1,.string (strB b2),v2]).cell j;rw[Nat.zero_add];exact this.trans hj⟩⟩,fun k s hk=>?_⟩
 match k,hk with
 | 0,hk=>obtain rfl:=Option.some.inj hk;exact⟨_,rfl,rfl,rfl⟩
 | 1,hk=>obtain rfl:=Option.some.inj hk;exact⟨_,rfl,q1⟩
 | 2,hk=>obtain rfl:=Option.some.inj hk;exact⟨_,rfl,rfl,rfl⟩
 | 3,hk=>obtain rfl:=Option.some.inj hk;exact⟨_,rfl,q2⟩
 | k+4,hk=>simp[tagS] at hk
theorem qrequest_any (B:Nat) (u:Value) (n:Bs) (w:World) (hu:SeesB w B u n) (hB:B<=w.heap.size) (hn:n.length=32) :
 Calls prog 61 #[u] w (EncP (reqT n) w):=by
 obtain⟨A,c,rfl,-,-⟩:=hu.mk_;have i0:(n.length:Int)=32:=by omega
 rw[hn] at hu ⊢;have hmk:=fun W=>make_bytes 2000 (by omega) W
 have hZl:=padZ_len;rw[padZ_eq] at hmk;have hr:Hid (reqT n=[([78,79,78,67],n),([80,65,68,83],padZ)]):=rfl;rw[show ((2000:Nat):Int)=2000 from rfl] at hmk;generalize padZ=Z at *;replace hZl:=lhd hZl;have hown:=lhd (own_made w Z (by rw[hZl.out];decide) w.heap.size nlr)
 go_enter func61,ntmps61
 go_wp2_with fail
 have hal:=lhd (balloc w (.cells (vb Z).toArray 5));have hA:=(hu.below (hal.out.mono hB)).more (Nat.le_trans hB hal.out.size);have hB2:=hown.out.sees;rw[hZl.out] at hB2;have hs:=tags2_lit (w.alloc (.cells (vb Z).toArray 5)) 173 (b1:=[78,79,78,67]) (b2:=[80,65,68,83]) hA hB2;rw[<-hr.out] at hs;have hall:=lhd (bgo hal.out (balloc _ (.cells #[.string (strB [78,79,78,67]),.slice A 32 c,.string (strB [80,65,68,83]),.slice (some ⟨w.heap.size,0,none⟩) 2000 2000] 173)));have hE:=encode_any _ _ (reqT n) _ hs (by simp) (by rw[hr.out];simp) (by rw[hr.out];simp[dataT,hn,hZl.out]);change Calls _ _ _ ((w.alloc (Obj.cells (vb Z).toArray 5)).alloc (Obj.cells #[Value.string { data:=#[78,79,78,67] },Value.slice A 32 c,Value.string { data:=#[80,65,68,83] },Value.slice (some { block:=w.heap.size,off:=0 }) 2000 2000] 173)) _ at hE;rw[xsa] at hE;refine hE.mono ?_;rintro e w1 ⟨v1,rfl,h1,hb1⟩;clear hE hs hB2 hA hmk;dsimp only
 go_wp2_with fail
 go_returns
 exact⟨v1,rfl,h1.mono (Nat.le_trans hal.out.size (by simp)),bgo hall.out hb1⟩
def FirstP (d:Bs) (w:World) (e:Ending) (w':World):Prop:=∃v,e=.returned (.tuple #[v,.bool true])/\OwnB w' w.heap.size v d/\Below w.heap.size w w'
theorem qfind_first (B:Nat) (u:Value) (nm d:Bs) (ts:List (Bs × Bs)) (w:World) (hu:SeesR w B u 2 (ts.length+1) (tagS ((nm,d) :: ts))) (hB:B<=w.heap.size) (hd:d.length<=1048576) (hn:ts.length<=1048576) :
 Calls prog 126 #[u,.string (strB nm)] w (FirstP d w):=by
 obtain⟨A,c,rfl,-,-⟩:=hu.mk_;obtain⟨bb,o,A',c',rfl,hbB,x0,x1,sd⟩:=tag_at (ts:=(nm,d) :: ts) hu 0 (nm,d) rfl;have hbw:bb<w.heap.size:=Nat.lt_of_lt_of_le hbB hB;have i0:(0:Int)<((ts.length:Int)+1):=by omega
 have hal:=balloc w (.cells #[.string (strB nm),.slice A' d.length c'] 173);have xn:=Box.new w 173 [.string (strB nm),.slice A' d.length c'];change Box (w.alloc (.cells #[.string (strB nm),.slice A' d.length c'] 173)) _ _ _ at xn;have y0:(w.alloc (.cells #[.string (strB nm),.slice A' d.length c'] 173)).cell? ⟨w.heap.size,0,none⟩=some (.string (strB nm)):=xn.cell 0;have y1:(w.alloc (.cells #[.string (strB nm),.slice A' d.length c'] 173)).cell? ⟨w.heap.size,1,none⟩=some (.slice A' d.length c'):=xn.cell 1;have hc:=lhd (bclone_any _ _ d _ (seesB_of sd hB hal) nlr (by omega));dsimp only at x0 x1;rw[Nat.zero_mul,Nat.add_zero] at x0 x1;clear sd xn hu;replace hd:=lhd hd;replace hn:=lhd hn
 go_enter func126,ntmps126
 go_wp2_with fail
 go_loopw [10] (fun t wr=>t=.int .i64 0/\wr=w) (fun t _=>0)
 case atStart=>exact⟨rfl,rfl⟩
 case round=>
  obtain⟨rfl,rfl⟩:=hrel
  go_wp2_with fail
  refine hc.out.mono ?_;rintro e w1 ⟨v1,rfl,h1,hb1⟩;clear hc x0 x1 y0 y1;dsimp only
  go_wp2_with fail
  try simp only[Exit.inBlock,Exit.then]
  go_returns
  exact⟨v1,rfl,h1.mono hal.size,bgo hal hb1⟩
theorem reqT_check (n:Bs) (hn:n.length=32):checkT [] (reqT n)=0:=by
 have h1:namedG [78,79,78,67]=true:=by decide
 have h2:namedG [80,65,68,83]=true:=by decide
 have o1:(Op.bytesLess [78,79,78,67] ([]:Bs) || ([78,79,78,67]:Bs) == [])=false:=by decide
 have o2:(Op.bytesLess [80,65,68,83] ([78,79,78,67]:Bs) || ([80,65,68,83]:Bs) == [78,79,78,67])=false:=by decide
 have e1:=checkT_step (reqT n) 0 _ [] rfl h1 o1 (show n.length % 4=0 by omega);have e2:=checkT_step (reqT n) 1 _ [78,79,78,67] rfl h2 o2 (show padZ.length % 4=0 by rw[padZ_len]);rw[List.drop_zero] at e1;rw[e1,e2]
 rfl
theorem reqT_body (n:Bs) (hn:n.length=32):(bodyT (reqT n)).length=2048:=by
 rw[bodyT_len (reqT n) (fun t ht=>(checkT_ok (reqT n) [] (reqT_check n hn) t ht).1) (by simp[reqT])];simp[reqT,dataT,hn,padZ_len]
theorem reqT_enc (n:Bs) (hn:n.length=32):encC (reqT n)=0:=by
 rw[encC,if_neg (by simp[reqT]),if_pos (reqT_check n hn),if_neg (by rw[reqT_body n hn];omega)]
theorem qnonce_any (B:Nat) (u:Value) (n:Bs) (w:World) (hu:SeesB w B u (encT (reqT n))) (hB:B<=w.heap.size) (hn:n.length=32) :
 Calls prog 62 #[u] w (fun e w'=>∃v,e=.returned (.tuple #[v,.int .i64 0])/\OwnB w' w.heap.size v n/\Below w.heap.size w w'):=by
 obtain⟨A,c,rfl,-,-⟩:=hu.mk_;obtain⟨d1,d2⟩:=dec_enc (reqT n) (reqT_enc n hn);have hlen:(encT (reqT n)).length=2048:=by rw[encT,if_pos (reqT_enc n hn),reqT_body n hn]
 have hD:=decode_any B _ _ w hu hB (by omega);unfold DecP at hD;rw[d1,d2] at hD;have hR:=lhd (fun B u W h1 h2=>qrequest_any B u n W h1 h2 hn);unfold EncP at hR;rw[reqT_enc n hn] at hR;generalize encT (reqT n)=E at *;rw[hlen] at hD hu ⊢;clear d1 d2
 go_enter func62,ntmps62
 go_wp2_with fail
 refine hD.mono ?_;rintro e w1 ⟨v1,rfl,h1,hb1⟩;replace hu:=seesB_of hu hB hb1;clear hD;dsimp only
 go_wp2_with fail
 have hF:=qfind_first _ _ [78,79,78,67] n [([80,65,68,83],padZ)] _ h1 nlr (by omega) (by rw[xl1];omega);unfold FirstP at hF;refine hF.mono ?_;rintro e w2 ⟨v2,rfl,h2,hb2⟩;replace hu:=seesB_of hu nlr hb2;clear h1;dsimp only
 go_wp2_with fail
 refine (hR.out _ _ _ h2.sees nlr).mono ?_;rintro e w3 ⟨v3,rfl,h3,hb3⟩;replace hu:=seesB_of hu nlr hb3;replace h2:=h2.below hb3;dsimp only
 go_wp2_with fail
 refine (equal_any _ _ _ _ _ _ _ h3.sees hu).mono ?_;rintro e w4 ⟨rfl,rfl⟩;rw[beq_self_eq_true];dsimp only
 go_wp2_with fail
 go_ret2
 exact⟨v2,rfl,h2.mono hb1.size,bgo (bgo hb1 hb2) hb3⟩
end Go.Proofs.YtjgepckncogdaaaGreat
