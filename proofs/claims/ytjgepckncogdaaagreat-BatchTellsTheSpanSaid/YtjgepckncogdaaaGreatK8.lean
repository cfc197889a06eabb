/- Contracts of functions, walks, plain facts. Conditions: those of each theorem. -/
import Derived.Lib.Overlaps
import Derived.Deep.DeepCutAuto
import Derived.Test.YtjgepckncogdaaaGreatK7
set_option linter.unusedVariables false
set_option linter.unusedSimpArgs false
set_option maxRecDepth 100000
set_option maxHeartbeats 16000000
namespace Go.Proofs.YtjgepckncogdaaaGreat
open Go Go.RowKit _root_.Go.Proofs.Tryz
attribute [local go_sem ↓] Go.wp_at_zero Go.wp_at_succ
def SeesLL (w:World) (B:Nat) (u:Value) (lss:List (List Bs)):Prop:=∃vs:List Value,Sees w B u 1 lss.length vs/\∀k,k<lss.length->∃v,vs[k]?=some v/\SeesL w B v (lss.getD k [])
theorem SeesLL.mk_ {w:World} {B:Nat} {u:Value} {ls:List (List Bs)} (h:SeesLL w B u ls):∃A c,u=.slice A ls.length c/\ls.length<=c/\c<=maxLen:=by
 obtain⟨vs,h,_⟩:=h;exact h.mk_
theorem SeesLL.at_ {w:World} {B:Nat} {A:Option Addr} {n c:Nat} {ls:List (List Bs)} (h:SeesLL w B (.slice A n c) ls) (hn:0<ls.length) :
 ∃b o,A=some ⟨b,o,none⟩/\b<B/\∀k,k<ls.length->∃A' c',w.cell? ⟨b,o+k,none⟩=some (.slice A' (ls.getD k []).length c')/\(ls.getD k []).length<=c'/\c'<=maxLen/\SeesL w B (.slice A' (ls.getD k []).length c') (ls.getD k []):=by
 obtain⟨vs,hs,hv⟩:=h;obtain⟨_,A',c',e,h1,h2,h3⟩:=hs;injection e with e1 e2 e3;subst e1 e2 e3;obtain⟨b,o,e,hb,hc⟩:=h3 hn;refine⟨b,o,e,hb,fun k hk=>?_⟩;obtain⟨v,hv1,hv2⟩:=hv k hk;obtain⟨A2,c2,rfl,g1,g2⟩:=hv2.mk_;exact⟨A2,c2,hc k _ hv1,g1,g2,hv2⟩
theorem seesB_of {w W:World} {B:Nat} {v:Value} {l:Bs} (h:SeesB w B v l) (hB:B<=w.heap.size) (hb:Below w.heap.size w W):SeesB W W.heap.size v l:=(h.below (hb.mono hB)).more (Nat.le_trans hB hb.size)
theorem join_lit {vs:List Value} (ls:List Bs) (w0 W:World) (G:Nat) (hG:W.heap.size=G) (hw:Below w0.heap.size w0 W) (h:SeesAll W W.heap.size vs ls) (hm:vs.length<=16) (hl:ls.flatten.length<=1099511627776) :
 Calls prog 70 #[.slice (some ⟨G,0,none⟩) vs.length vs.length] (W.alloc (.cells vs.toArray 25)) fun e w'=>∃v,e=.returned v/\OwnB w' w0.heap.size v ls.flatten/\Below w0.heap.size w0 w':=by
 subst hG;exact (join_any _ _ ls _ (seesL_lit W 25 h (by unfold maxLen;omega)) nlr hl).mono fun _ _ ⟨v,h1,h2,h3⟩=>⟨v,h1,h2.mono (Nat.le_trans hw.size (balloc W _).size),bgo hw (bgo (balloc W _) h3)⟩
theorem rjoin_lit {vs:List Value} (ls:List Bs) (w0 W:World) (G:Nat) (hG:W.heap.size=G) (hw:Below w0.heap.size w0 W) (h:SeesAll W W.heap.size vs ls) (hm:vs.length<=16) (hl:ls.flatten.length<=1099511627776) :
 Calls prog 85 #[.slice (some ⟨G,0,none⟩) vs.length vs.length] (W.alloc (.cells vs.toArray 25)) fun e w'=>∃v,e=.returned v/\OwnB w' w0.heap.size v ls.flatten/\Below w0.heap.size w0 w':=by
 subst hG;exact (rjoin_any _ _ ls _ (seesL_lit W 25 h (by unfold maxLen;omega)) nlr hl).mono fun _ _ ⟨v,h1,h2,h3⟩=>⟨v,h1,h2.mono (Nat.le_trans hw.size (balloc W _).size),bgo hw (bgo (balloc W _) h3)⟩
theorem digest_any (B:Nat) (u u2:Value) (p m:Bs) (i:Nat) (w:World) (hu:SeesB w B u p) (hu2:SeesB w B u2 m) (hB:B<=w.heap.size) (hp:p.length<=1048576) (hm:m.length<=1048576) (hi:i<4294967296) :
 Calls prog 139 #[u,.int .i64 (i:Int),u2] w (Shows (digG p i m) w):=by
 obtain⟨A,c,rfl,-,-⟩:=hu.mk_;obtain⟨AA,cc,rfl,-,-⟩:=hu2.mk_;have m1:IntKind.u64.wrap (i:Int)=(i:Int):=by rw[IntKind.wrap_u64];omega
 have hput:=lhd (put4_any i (by omega) w);have hl4:=putB_len 4 i;have hdef:Hid (short (putB 4 i |> fun x=>p++x++m)=digG p i m):=rfl;replace hu:=lhd hu;replace hu2:=lhd hu2
 go_enter func139,ntmps139
 go_wp2_with fail
 refine hput.out.mono ?_;rintro e w1 ⟨v1,rfl,h1,hb1⟩;obtain⟨A1,c1,rfl,-,-⟩:=h1.sees.mk_;have hfl:[p,putB 4 i,m].flatten=p++putB 4 i++m:=by simp
 have hj:=lhd (join_lit (vs:=[.slice A p.length c,.slice A1 (putB 4 i).length c1,.slice AA m.length cc]) [p,putB 4 i,m] w1 w1 w1.heap.size rfl (Below.refl _ _) ⟨seesB_of (hu.out.more hB) nlr hb1,h1.sees,seesB_of (hu2.out.more hB) nlr hb1,trivial⟩ (by simp) (by rw[hfl];simp[hl4];omega));rw[hfl] at hj;replace hfl:=lhd hfl;replace hb1:=lhd hb1;have hln:(p++putB 4 i++m).length<=1099511627776:=by simp[hl4];omega
 clear h1 hl4;dsimp only
 go_wp2_with fail
 refine hj.out.mono ?_;rintro e w2 ⟨v2,rfl,h2,hb2⟩;have hs:=lhd (short_any _ _ _ _ h2.sees nlr hln);clear hln hj;dsimp only
 go_wp2_with fail
 refine hs.out.mono ?_;rintro e w3 ⟨v3,rfl,h3,hb3,hf3⟩;dsimp only
 go_wp2_with fail
 go_ret
 exact⟨v3,rfl,h3,bgo (bgo hb1.out hb2) hb3,hf3.mono (bgo hb1.out hb2).size⟩
theorem rdigest_any (B:Nat) (u u2:Value) (p m:Bs) (i:Nat) (w:World) (hu:SeesB w B u p) (hu2:SeesB w B u2 m) (hB:B<=w.heap.size) (hp:p.length<=1048576) (hm:m.length<=1048576) (hi:i<4294967296) :
 Calls prog 185 #[u,.int .i64 (i:Int),u2] w (Shows (digG p i m) w):=by
 obtain⟨A,c,rfl,-,-⟩:=hu.mk_;obtain⟨AA,cc,rfl,-,-⟩:=hu2.mk_;have m1:IntKind.u64.wrap (i:Int)=(i:Int):=by rw[IntKind.wrap_u64];omega
 have hput:=lhd (rput4_any i (by omega) w);have hl4:=putB_len 4 i;have hdef:Hid (short (putB 4 i |> fun x=>p++x++m)=digG p i m):=rfl;replace hu:=lhd hu;replace hu2:=lhd hu2
 go_enter func185,ntmps185
 go_wp2_with fail
 refine hput.out.mono ?_;rintro e w1 ⟨v1,rfl,h1,hb1⟩;obtain⟨A1,c1,rfl,-,-⟩:=h1.sees.mk_;have hfl:[p,putB 4 i,m].flatten=p++putB 4 i++m:=by simp
 have hj:=lhd (rjoin_lit (vs:=[.slice A p.length c,.slice A1 (putB 4 i).length c1,.slice AA m.length cc]) [p,putB 4 i,m] w1 w1 w1.heap.size rfl (Below.refl _ _) ⟨seesB_of (hu.out.more hB) nlr hb1,h1.sees,seesB_of (hu2.out.more hB) nlr hb1,trivial⟩ (by simp) (by rw[hfl];simp[hl4];omega));rw[hfl] at hj;replace hfl:=lhd hfl;replace hb1:=lhd hb1;have hln:(p++putB 4 i++m).length<=1099511627776:=by simp[hl4];omega
 clear h1 hl4;dsimp only
 go_wp2_with fail
 refine hj.out.mono ?_;rintro e w2 ⟨v2,rfl,h2,hb2⟩;have hs:=lhd (rshort_any _ _ _ _ h2.sees nlr hln);clear hln hj;dsimp only
 go_wp2_with fail
 refine hs.out.mono ?_;rintro e w3 ⟨v3,rfl,h3,hb3,hf3⟩;dsimp only
 go_wp2_with fail
 go_ret
 exact⟨v3,rfl,h3,bgo (bgo hb1.out hb2) hb3,hf3.mono (bgo hb1.out hb2).size⟩
theorem seesL_of {w W:World} {B:Nat} {v:Value} {l:List Bs} (h:SeesL w B v l) (hB:B<=w.heap.size) (hb:Below w.heap.size w W):SeesL W W.heap.size v l:=(h.below (hb.mono hB)).more (Nat.le_trans hB hb.size)
def validI (seed:Bs) (h n:Int):Bool:=decide (seed.length=32)&&(decide (0<=h)&&decide (h<=6))&&decide (0<=n)&&decide (n<=2 ^ h.toNat)
theorem tall_yes (h:Int) (w:World) (h0:0<=h) (h1:h<=6):Calls prog 180 #[.int .i64 h] w fun e w'=>e=.returned (.bool true)/\w'=w:=by
 go_enter func180,ntmps180
 go_wp2
 go_ret
 exact⟨rfl,rfl⟩
theorem tall_no (h:Int) (w:World) (h0:h<0\/6<h):Calls prog 180 #[.int .i64 h] w fun e w'=>e=.returned (.bool false)/\w'=w:=by
 by_cases h1:0<=h
 ·have h2:¬(h<=6):=by omega
  go_enter func180,ntmps180
  go_wp2
  go_ret
  exact⟨rfl,rfl⟩
 go_enter func180,ntmps180
 go_wp2
 go_ret
 exact⟨rfl,rfl⟩
theorem rsvalid_any (B:Nat) (u:Value) (seed:Bs) (h n:Int) (w:World) (hu:SeesB w B u seed) :
 Calls prog 112 #[.agg #[u,.int .i64 h,.int .i64 n]] w (BoolPost (validI seed h n) w):=by
 obtain⟨A,c,rfl,-,-⟩:=hu.mk_;clear hu;have hbb:Below w.heap.size w (w.alloc (.cells #[.slice A seed.length c,.int .i64 h,.int .i64 n] 27)):=balloc w _;replace hbb:=lhd hbb
 by_cases hl:seed.length=32
 ·by_cases hh:0<=h/\h<=6
  ·by_cases hn:0<=n
   ·have hv:Hid (validI seed h n=decide (n<=2 ^ h.toNat)):=by show _=_;simp[validI,hl,hh,hn]
    obtain⟨h0,h1⟩:=hh;obtain⟨k,rfl⟩:=Int.eq_ofNat_of_zero_le h0;rw[xnc] at hv;have hp:=wrap_pow k (by omega);have hpc:((2 ^ k:Nat):Int)=(2:Int) ^ k:=by simp
    rw[<-hpc] at hv;replace hpc:=lhd hpc;have hp64:=pow_le64 k (by omega);generalize 2 ^ k=N at *;rw[hl] at hbb ⊢
    go_enter func112,ntmps112
    go_wp2_with fail
    go_ret
    exact⟨ret_bool (by rw[hv.out]),hbb.out⟩
   have hv:Hid (validI seed h n=false):=by show _=_;simp[validI,hn]
   obtain⟨h0,h1⟩:=hh;rw[hl] at hbb ⊢;have hn0:decide (0<=n)=false:=by simpa using hn
   go_enter func112,ntmps112
   go_wp2_with fail
   go_ret
   exact⟨ret_bool (by rw[hv.out]),hbb.out⟩
  have hv:Hid (validI seed h n=false):=by show _=_;simp[validI];omega
  rw[hl] at hbb ⊢
  by_cases h0:0<=h
  ·have h1:decide (h<=6)=false:=by simp;omega
   go_enter func112,ntmps112
   go_wp2_with fail
   go_ret
   exact⟨ret_bool (by rw[hv.out]),hbb.out⟩
  have h1:decide (0<=h)=false:=by simpa using h0
  go_enter func112,ntmps112
  go_wp2_with fail
  go_ret
  exact⟨ret_bool (by rw[hv.out]),hbb.out⟩
 have hv:Hid (validI seed h n=false):=by show _=_;simp[validI,hl]
 have hl2:((seed.length:Int) == 32)=false:=by rw[beq_eq_false_iff_ne];omega
 go_enter func112,ntmps112
 go_wp2_with fail
 go_ret
 exact⟨ret_bool (by rw[hv.out]),hbb.out⟩
def SignOk (seed:Bs) (h i:Nat) (m:Bs) (w:World) (e:Ending) (w':World):Prop:=
 ∃v v2,e=.returned (.tuple #[.agg #[v,.int .i64 (h:Int),.int .i64 ((i+1:Nat):Int)],v2,.int .i64 0])/\SeesB w' w'.heap.size v seed/\SeesB w' w'.heap.size v2 (sigG seed h i m)/\Below w.heap.size w w'
def SignBad (c:Int) (w:World) (e:Ending) (w':World):Prop:=
 e=.returned (.tuple #[.agg #[.slice none 0 0,.int .i64 0,.int .i64 0],.slice none 0 0,.int .i64 c])/\Below w.heap.size w w'
theorem validI_mk (seed:Bs) (h i:Nat) (hl:seed.length=32) (hh:h<=6) (hi:i<=2 ^ h):validI seed (h:Int) (i:Int)=true:=by
 have:(i:Int)<=((2 ^ h:Nat):Int):=by omega
 simp[validI,hl] at this ⊢
 omega
def NoByte (xs:List Value):Prop:=∀x∈xs,∀n,x≠.int .u8 n
theorem SeesB.notin {w:World} {B G:Nat} {T:TypeId} {u:Value} {l:Bs} {xs:List Value} (h:SeesB w B u l) (hbx:Box w G T xs) (hno:NoByte xs) (hl:l≠[]):u.ownBlock≠some G:=by
 intro e;obtain⟨A,c,rfl,-,-⟩:=h.mk_;obtain⟨b,o,rfl,-,hc⟩:=h.at_ (List.length_pos_iff.2 hl);cases e;have h0:=hc 0 (List.length_pos_iff.2 hl);rw[hbx.cell] at h0;exact hno _ (List.mem_of_getElem? h0) _ rfl
theorem setCell_grown (w:World) (G j:Nat) (v:Value):w.grownBy (w.setCell ⟨G,j,none⟩ v) (some G):=⟨rfl,rfl,rfl,by simp[World.setCell],fun k hk hne=>Below.heap_setCell w ⟨G,j,none⟩ v k (fun e=>hne (by rw[e]))⟩
theorem OwnL.poke {w:World} {base G j:Nat} {T:TypeId} {v v':Value} {ls:List Bs} {xs:List Value} (h:OwnL w base v ls) (hG:G<base) (hbx:Box w G T xs) (hno:NoByte xs):OwnL (w.setCell ⟨G,j,none⟩ v') base v ls:=by
 have hlt:=h.lt;obtain⟨vs,h1,h2⟩:=h;have hne:v.ownBlock≠some G:=fun e=>by have:=(hlt G e).1;omega
 refine⟨vs,h1.kept (setCell_grown w G j v') (.inr hne),fun k hk=>?_⟩;obtain⟨u,e1,e2⟩:=h2 k hk;refine⟨u,e1,SeesB.more (e2.1.stay fun hl k hk p hp=>World.cell?_setCell_other w _ p v' (fun e=>?_)) (by simp[World.setCell]),e2.2⟩;exact e2.1.notin hbx hno hl (by rw[hk,<-hp,<-e])
theorem SeesB.poke {w:World} {B G j:Nat} {T:TypeId} {u v':Value} {l:Bs} {xs:List Value} (h:SeesB w B u l) (hbx:Box w G T xs) (hno:NoByte xs):SeesB (w.setCell ⟨G,j,none⟩ v') B u l:=
 h.stay fun hl k hk p hp=>World.cell?_setCell_other w _ p v' (fun e=>h.notin hbx hno hl (by rw[hk,<-hp,<-e]))
theorem Box.other {w:World} {g G j:Nat} {T:TypeId} {v:Value} {xs:List Value} (h:Box w g T xs) (hne:g≠G):Box (w.setCell ⟨G,j,none⟩ v) g T xs:=(Below.heap_setCell w ⟨G,j,none⟩ v g hne).trans h
theorem cell_set3 (W:World) (q:Nat) (p:Addr) (hne:p.block≠q) (a b c:Value):(((W.setCell ⟨q,0,none⟩ a).setCell ⟨q,1,none⟩ b).setCell ⟨q,2,none⟩ c).cell? p=W.cell? p:=by
 rw[World.cell?_setCell_other _ _ _ _ (fun e=>hne (by rw[<-e])),World.cell?_setCell_other _ _ _ _ (fun e=>hne (by rw[<-e])),World.cell?_setCell_other _ _ _ _ (fun e=>hne (by rw[<-e]))]
theorem rsign_ok (B:Nat) (u u2:Value) (seed m:Bs) (h i:Nat) (w:World) (hu:SeesB w B u seed) (hu2:SeesB w B u2 m) (hB:B<=w.heap.size) (hl:seed.length=32) (hh:h<=6) (hi:i<2 ^ h) (hm:m.length<=65535) :
 Calls prog 114 #[.agg #[u,.int .i64 (h:Int),.int .i64 (i:Int)],u2] w (SignOk seed h i m w):=by
 obtain⟨A,c,rfl,-,-⟩:=hu.mk_;obtain⟨AA,cc,rfl,-,-⟩:=hu2.mk_;have hvI:=validI_mk seed h i hl hh (Nat.le_of_lt hi);have hp:=wrap_pow h hh;have m0:IntKind.u64.wrap (h:Int)=(h:Int):=by rw[IntKind.wrap_u64];omega
 have hp64:=pow_le64 h hh;have hval:=fun W (hW:SeesB W B (.slice A seed.length c) seed)=>rsvalid_any B _ seed h i W hW
 rw[hvI] at hval;have hlv:=fun W (hW:SeesB W W.heap.size (.slice A seed.length c) seed)=>rleaves_any W.heap.size _ seed h W hW nlr hl hh
 have hsg:=fun W (v2:Value) (d:Bs) (hd:d.length=16) (hW:SeesB W W.heap.size (.slice A seed.length c) seed) (h2:SeesB W W.heap.size v2 d)=>rotsign_any W.heap.size _ v2 seed d i W hW h2 nlr hl hd (by omega)
 have hdg:=fun W (v2:Value) (p:Bs) (hp:p.length=32) (hW:SeesB W W.heap.size v2 p) (h2:SeesB W W.heap.size (.slice AA m.length cc) m)=>rdigest_any W.heap.size v2 _ p m i W hW h2 nlr (by omega) (by omega) (by omega)
 rw[hl] at hu hval hlv hsg ⊢;replace hu:=lhd hu;replace hu2:=lhd hu2;replace hvI:=lhd hvI;replace hval:=lhd hval;replace hlv:=lhd hlv;replace hsg:=lhd hsg;replace hdg:=lhd hdg;replace hl:=lhd hl;have hkl:=lhd (keyG_len seed h);have hleaves:=lhd (leavesL_len seed (2 ^ h));have hsig:Hid ([UInt8.ofNat h]++putB 4 i++(signL seed i (digG (keyG seed h) i m)).flatten++(pathG (hashesG seed h) i).flatten=sigG seed h i m):=rfl;have hkey:Hid (rootG ((leavesL seed (2 ^ h)).map leafH)=keyG seed h):=rfl;have hpath:Hid (pathG ((leavesL seed (2 ^ h)).map leafH) i=pathG (hashesG seed h) i):=rfl;have hel:Hid (∀x∈leavesL seed (2 ^ h),x.length=16):=leavesL_el seed _;have hpl:=lhd (pathG_len h _ i (hashesG_len seed h));have hpe:Hid (∀x∈pathG (hashesG seed h) i,x.length=32):=pathG_el _ _ _ nlr (hashesG_el seed h);generalize leavesL seed (2 ^ h)=LV at *;generalize hN:2 ^ h=N at *;have hi2:((i:Int) == (N:Int))=false:=by rw[beq_eq_false_iff_ne];omega
 replace hN:=lhd hN
 go_enter func114,ntmps114
 go_wp2_with fail
 have hb0:Below w.heap.size w ((w.alloc (.cells #[.slice A 32 c,.int .i64 (h:Int),.int .i64 (i:Int)] 27)).alloc (.cells #[.slice none 0 0,.int .i64 0,.int .i64 0] 27)):=bgo (balloc w _) (balloc _ _);have hx1:=Box.below (Box.new w 27 [.slice A 32 c,.int .i64 (h:Int),.int .i64 (i:Int)]) (balloc _ (.cells #[.slice none 0 0,.int .i64 0,.int .i64 0] 27));have hx2:=Box.new (w.alloc (.cells #[.slice A 32 c,.int .i64 (h:Int),.int .i64 (i:Int)] 27)) 27 [.slice none 0 0,.int .i64 0,.int .i64 0];have hz:(w.alloc (.cells #[.slice A 32 c,.int .i64 (h:Int),.int .i64 (i:Int)] 27)).heap.size=w.heap.size+1:=xsa _ _;rw[hz] at hx2;change Box ((w.alloc (.cells #[.slice A 32 c,.int .i64 (h:Int),.int .i64 (i:Int)] 27)).alloc (.cells #[.slice none 0 0,.int .i64 0,.int .i64 0] 27)) _ _ _ at hx1 hx2;generalize (w.alloc (.cells #[.slice A 32 c,.int .i64 (h:Int),.int .i64 (i:Int)] 27)).alloc (.cells #[.slice none 0 0,.int .i64 0,.int .i64 0] 27)=W0 at *;clear hz;obtain⟨g,hg⟩:∃g,g=w.heap.size:=⟨_,rfl⟩
 rw[<-hg] at hx1 hx2 ⊢;replace hg:=lhd hg;replace hb0:=lhd hb0;refine (hval.out W0 (hu.out.below (hb0.out.mono hB))).mono ?_;rintro e W1 ⟨rfl,hb1⟩;replace hx1:=hx1.below hb1;replace hx2:=hx2.below hb1;replace hb1:=lhd (bgo hb0.out hb1);have c0:W1.cell? ⟨g,0,none⟩=some (.slice A 32 c):=hx1.cell 0;have c1:W1.cell? ⟨g,1,none⟩=some (.int .i64 (h:Int)):=hx1.cell 1;have c2:W1.cell? ⟨g,2,none⟩=some (.int .i64 (i:Int)):=hx1.cell 2;clear hval hb0;replace hx1:=lhd hx1;replace hx2:=lhd hx2;dsimp only
 go_wp2_with fail
 have hx1q:Box W1 g 27 _:=hx1.out;have hx2q:Box W1 (g+1) 27 _:=hx2.out;have hb1q:=hb1.out;clear hx1 hx2 hb1 c0 c1 c2;refine (hlv.out W1 (seesB_of (hu.out.more hB) nlr hb1q)).mono ?_;rintro e W2 ⟨v2,rfl,h2,hb2⟩;have hrt:=rroot_top LV W2.heap.size v2 W2 h2.sees nlr (by rw[hleaves.out];omega) (fun x hx=>by rw[hel.out x hx];omega);unfold RootPost at hrt;rw[hkey.out] at hrt;obtain⟨A2,c2',rfl⟩:=h2.shape;rw[hleaves.out] at hrt h2 ⊢;replace hx1:=hx1q.below hb2;replace hx2:=hx2q.below hb2;replace hb2:=bgo hb1q hb2;replace h2:=lhd h2;replace hrt:=lhd hrt;clear hlv hx1q hx2q hb1q;dsimp only
 go_wp2_with fail
 refine hrt.out.mono ?_;rintro e W3 ⟨v3,rfl,h3,hb3⟩;replace h2:=h2.out.below hb3;replace hx1:=hx1.below hb3;replace hx2:=hx2.below hb3;replace hb3:=bgo hb2 hb3;clear hb2 hrt;have c0:W3.cell? ⟨g,0,none⟩=some (.slice A 32 c):=hx1.cell 0;have c1:W3.cell? ⟨g,1,none⟩=some (.int .i64 (h:Int)):=hx1.cell 1;have c2:W3.cell? ⟨g,2,none⟩=some (.int .i64 (i:Int)):=hx1.cell 2;obtain⟨A3,c3,rfl,-,-⟩:=h3.sees.mk_;rw[hkl.out] at h3 ⊢;have hgl:=hx1.lt;have hgl2:=hx2.lt;replace hx1:=lhd hx1;replace hx2:=lhd hx2;replace hb3:=lhd hb3;replace h3:=lhd h3;replace h2:=lhd h2;dsimp only
 go_wp2_with fail
 have hpt:=rpath_top LV i W3.heap.size (.slice A2 N c2') W3 h2.out.sees (by rw[hleaves.out];exact hi) nlr (by rw[hleaves.out];omega) (fun x hx=>by rw[hel.out x hx];omega);unfold PathPost at hpt;rw[hpath.out] at hpt;generalize pathG (hashesG seed h) i=PT at *;refine hpt.mono ?_;rintro e W6 ⟨v5,rfl,h56,hb5⟩;obtain⟨A5,c5,rfl⟩:=h56.shape;rw[hpl.out] at h56 ⊢;have hx16:=hx1.out.below hb5;have hx26:=hx2.out.below hb5;have h36:=(h3.out.below hb5).sees;have hb6:=bgo hb3.out hb5;clear hpt h2 h3 hx1 hx2 hb3 hb5 c0 c1 c2 hgl hgl2;have hg0:=lhd (hdg.out W6.drew (.slice A3 32 c3) (keyG seed h) hkl.out h36 (seesB_of (hu2.out.more hB) nlr (hb6.drew)));have hd16:Hid ((digG (keyG seed h) i m).length=16):=short_len _;generalize digG (keyG seed h) i m=DG at *;have hsg2:Hid (∀W v2,Below W6.heap.size W6 W->SeesB W W.heap.size v2 DG->Calls prog 184 #[.slice A 32 c,.int .i64 (i:Int),v2] W (OtSignPost (signL seed i DG) W)):=
  fun W v2 hbW h2=>hsg.out W v2 DG hd16.out (seesB_of (hu.out.more hB) nlr (bgo hb6 hbW)) h2
 have K:Hid (∀W:World,Below W6.heap.size W6 W->W.cell? ⟨g,0,none⟩=some (.slice A 32 c)/\W.cell? ⟨g,1,none⟩=some (.int .i64 (h:Int))/\W.cell? ⟨g,2,none⟩=some (.int .i64 (i:Int))):=
  fun W hW=>⟨(hW.cell (p:=⟨g,0,none⟩) hx16.lt).trans (hx16.cell 0),(hW.cell (p:=⟨g,1,none⟩) hx16.lt).trans (hx16.cell 1),(hW.cell (p:=⟨g,2,none⟩) hx16.lt).trans (hx16.cell 2)⟩
 have y0:W6.cell? ⟨g,0,none⟩=some (.slice A 32 c):=hx16.cell 0;have y2:W6.cell? ⟨g,2,none⟩=some (.int .i64 (i:Int)):=hx16.cell 2;replace hx26:=lhd hx26;replace h56:=lhd h56;replace hb6:=lhd hb6;clear hdg hsg h36 hx16;dsimp only
 go_wp2_with fail
 go_region_held3 (fun W':World=>W'.cell? ⟨g,0,none⟩=some (.slice A 32 c)/\W'.cell? ⟨g,1,none⟩=some (.int .i64 (h:Int))/\W'.cell? ⟨g,2,none⟩=some (.int .i64 (i:Int)))
  (first | exact K.out _ hb8 | exact K.out _ hb7 | exact K.out _ (bdrew W6) | exact K.out _ (Below.refl _ _) | (go_keep;done))
  (first
   | (go_at_call 184;refine (hsg2.out _ _ hb7 h7).mono ?_;rintro e W8 ⟨v8,rfl,h8,hb8⟩
      obtain⟨A8,c8,rfl⟩:=h8.shape;replace hb8:=bgo hb7 hb8)
   | (go_at_call 185;refine hg0.out.mono ?_;rintro e W7 ⟨v7,rfl,h7,hb7,-⟩
      obtain⟨A7,c7,rfl,-,-⟩:=h7.mk_;replace hb7:=(bdrew W6).trans hb7))
 all_goals
  have hsl:=signL_len seed i DG;have hse:=signL_el seed i DG;have h58:=h56.out.below hb8;have hx28:=hx26.out.below hb8;replace K:Hid (∀W:World,Below W8.heap.size W8 W->W.cell? ⟨g,0,none⟩=some (.slice A 32 c)/\W.cell? ⟨g,1,none⟩=some (.int .i64 (h:Int))/\W.cell? ⟨g,2,none⟩=some (.int .i64 (i:Int))):=fun W hW=>K.out W (bgo hb8 hW)
  replace hb8:=bgo hb6.out hb8;obtain⟨x0,x1,x2⟩:=K.out W8 (Below.refl _ _);generalize hSL:signL seed i DG=SL at *;replace hSL:=lhd hSL;rw[hsl] at h8 ⊢;replace hsl:=lhd hsl;replace hse:=lhd hse;replace h8:=lhd h8;replace h58:=lhd h58;replace hx28:=lhd hx28;replace hb8:=lhd hb8;clear hb7 h7 hg0 hsg2 h56 hx26 hb6 y0 y2;have m4:IntKind.u64.wrap (i:Int)=(i:Int):=by rw[IntKind.wrap_u64];omega
  have m5:IntKind.u8.wrap (h:Int)=(h:Int):=by rw[IntKind.wrap_u8];omega
  have hxb:Hid (((UInt8.ofNat h).toNat:Int)=(h:Int)):=by show _=_;simp;omega
  have hput:=lhd (rput4_any i (by omega));have hf1:=flat_len 16 SL hse.out;have hf2:=flat_len 32 PT hpe.out;rw[hsl.out] at hf1;rw[hpl.out] at hf2;have hj1:Hid (∀W:World,Below W8.heap.size W8 W->Calls prog 85 #[.slice A8 35 c8] W (Gives SL.flatten W)):=fun W hW=>rjoin_any W8.heap.size _ SL W (h8.out.sees.below hW) hW.size (by omega)
  have hj2:Hid (∀W:World,Below W8.heap.size W8 W->Calls prog 85 #[.slice A5 h c5] W (Gives PT.flatten W)):=fun W hW=>rjoin_any W8.heap.size _ PT W (h58.out.sees.below hW) hW.size (by omega)
  have hl4:=lhd (putB_len 4 i);have hfl:Hid ([[UInt8.ofNat h],putB 4 i,SL.flatten,PT.flatten].flatten=sigG seed h i m):=by rw[<-hsig.out];show _=_;simp
  have hfll:Hid ([[UInt8.ofNat h],putB 4 i,SL.flatten,PT.flatten].flatten.length<=1099511627776):=by show _<=_;rw[hfl.out,sigG_len];omega
  generalize hSG:sigG seed h i m=SG at *;replace hSG:=lhd hSG;generalize SL.flatten=L1 at *;generalize PT.flatten=L2 at *;clear hf1 hf2 hse hpe hsl hSL
  go_upto_region 11 with (fail)
  go_cut [14] (fun v W=>∃A c,v=.slice A SG.length c/\Hid (OwnB W W8.heap.size v SG)/\Below W8.heap.size W8 W)
  case first=>
   go_region_held3 (fun W':World=>W'.cell? ⟨g,0,none⟩=some (.slice A 32 c)/\W'.cell? ⟨g,1,none⟩=some (.int .i64 (h:Int))/\W'.cell? ⟨g,2,none⟩=some (.int .i64 (i:Int)))
    (first | exact K.out _ hb12 | (refine K.out _ ?_;(repeat (first | exact Below.refl _ _ | (refine bgo ?_ (balloc _ _)) | (refine bgo ?_ (bdrew _)) | (refine bgo ?_ (by assumption))));done) | (go_keep;done))
    (first
     | (go_at_call_of 85 (A8);refine (hj1.out _ ?_).mono ?_
        focus ((repeat (first | exact Below.refl _ _ | (refine bgo ?_ (balloc _ _)) | (refine bgo ?_ (bdrew _)) | (refine bgo ?_ (by assumption))));done)
        rintro e W10 ⟨v10,rfl,h10,hb10⟩;obtain⟨A10,c10,rfl,-,-⟩:=h10.sees.mk_)
     | (go_at_call_of 85 (A5);refine (hj2.out _ ?_).mono ?_
        focus ((repeat (first | exact Below.refl _ _ | (refine bgo ?_ (balloc _ _)) | (refine bgo ?_ (bdrew _)) | (refine bgo ?_ (by assumption))));done)
        rintro e W11 ⟨v11,rfl,h11,hb11⟩;obtain⟨A11,c11,rfl,-,-⟩:=h11.sees.mk_)
     | (go_at_call 121;refine (hput.out _).mono ?_;rintro e W9 ⟨v9,rfl,h9,hb9⟩;obtain⟨A9,c9,rfl,-,-⟩:=h9.sees.mk_)
     | (go_at_call 85;refine (rjoin_lit (vs:=[_,_,_,_]) [[UInt8.ofNat h],putB 4 i,L1,L2] W8 _ _ ?_ ?_ ⟨?_,?_,?_,?_,trivial⟩ (by simp) hfll.out).mono ?_
        focus (first | rfl | (simp;done))
        focus ((repeat (first | exact Below.refl _ _ | (refine bgo ?_ (balloc _ _)) | (refine bgo ?_ (bdrew _)) | (refine bgo ?_ (by assumption))));done)
        focus (first | (refine seesB_of (one_byte W8 _ _ hxb.out).sees nlr ?_;(repeat (first | exact Below.refl _ _ | (refine bgo ?_ (balloc _ _)) | (refine bgo ?_ (bdrew _)) | (refine bgo ?_ (by assumption))));done) | (refine seesB_of (one_byte W9 _ _ hxb.out).sees nlr ?_;(repeat (first | exact Below.refl _ _ | (refine bgo ?_ (balloc _ _)) | (refine bgo ?_ (bdrew _)) | (refine bgo ?_ (by assumption))));done) | (refine seesB_of (one_byte W10 _ _ hxb.out).sees nlr ?_;(repeat (first | exact Below.refl _ _ | (refine bgo ?_ (balloc _ _)) | (refine bgo ?_ (bdrew _)) | (refine bgo ?_ (by assumption))));done) | (refine seesB_of (one_byte W11 _ _ hxb.out).sees nlr ?_;(repeat (first | exact Below.refl _ _ | (refine bgo ?_ (balloc _ _)) | (refine bgo ?_ (bdrew _)) | (refine bgo ?_ (by assumption))));done))
        focus (refine seesB_of h9.sees nlr ?_;(repeat (first | exact Below.refl _ _ | (refine bgo ?_ (balloc _ _)) | (refine bgo ?_ (bdrew _)) | (refine bgo ?_ (by assumption))));done)
        focus (refine seesB_of h10.sees nlr ?_;(repeat (first | exact Below.refl _ _ | (refine bgo ?_ (balloc _ _)) | (refine bgo ?_ (bdrew _)) | (refine bgo ?_ (by assumption))));done)
        focus (refine seesB_of h11.sees nlr ?_;(repeat (first | exact Below.refl _ _ | (refine bgo ?_ (balloc _ _)) | (refine bgo ?_ (bdrew _)) | (refine bgo ?_ (by assumption))));done)
        rintro e W12 ⟨v12,rfl,h12,hb12⟩;rw[hfl.out] at h12;obtain⟨A12,c12,rfl,-,-⟩:=h12.sees.mk_))
   all_goals
    go_wp2_with fail
    go_meet
    exact⟨A12,c12,rfl,h12,hb12⟩
  case rest=>
   obtain⟨A12,c12,rfl,h12,hb12⟩:=hcut;replace h12:=h12.out;obtain⟨W12,rfl⟩:∃W:World,W=wc:=⟨_,rfl⟩
   have hlt8:=lhd hx28.out.lt;have hx2:=hx28.out.below hb12;replace hb8:=lhd (bgo hb8.out hb12);replace K:Hid (∀W:World,Below W12.heap.size W12 W->W.cell? ⟨g,0,none⟩=some (.slice A 32 c)/\W.cell? ⟨g,1,none⟩=some (.int .i64 (h:Int))/\W.cell? ⟨g,2,none⟩=some (.int .i64 (i:Int))):=fun W hW=>K.out W (bgo hb12 hW)
   have K3:Hid (∀(W:World) (a b d:Value),Below W12.heap.size W12 W->(((W.setCell ⟨g+1,0,none⟩ a).setCell ⟨g+1,1,none⟩ b).setCell ⟨g+1,2,none⟩ d).cell? ⟨g,0,none⟩=some (.slice A 32 c)/\(((W.setCell ⟨g+1,0,none⟩ a).setCell ⟨g+1,1,none⟩ b).setCell ⟨g+1,2,none⟩ d).cell? ⟨g,1,none⟩=some (.int .i64 (h:Int))/\(((W.setCell ⟨g+1,0,none⟩ a).setCell ⟨g+1,1,none⟩ b).setCell ⟨g+1,2,none⟩ d).cell? ⟨g,2,none⟩=some (.int .i64 (i:Int))):=
    fun W a b d hW=>by
     obtain⟨k0,k1,k2⟩:=K.out W hW;have e1:∀o,(⟨g,o,none⟩:Addr).block≠g+1:=fun o=>by dsimp only;omega
     exact⟨(cell_set3 W _ _ (e1 0) a b d).trans k0,(cell_set3 W _ _ (e1 1) a b d).trans k1,(cell_set3 W _ _ (e1 2) a b d).trans k2⟩
   obtain⟨y0,y1,y2⟩:=K.out W12 (Below.refl _ _);have Z:Hid (∀W:World,Below W12.heap.size W12 W->Box W (g+1) 27 [.slice none 0 0,.int .i64 0,.int .i64 0]):=fun W hW=>hx2.below hW
   have hlt1:=hx2.lt;have hfs:Hid ([seed].flatten=seed):=by show _=_;simp
   have hjs:=rjoin_any _ _ [seed] (W12.alloc (.cells #[.slice A 32 c] 25)).drew (SeesL.below (seesL_lit W12 25 (vs:=[.slice A 32 c]) (ls:=[seed]) ⟨seesB_of (hu.out.more hB) nlr hb8.out,trivial⟩ (by simp[maxLen])) (bdrew _)) nlr (by rw[hfs.out,hl.out];omega);rw[hfs.out] at hjs;replace hjs:=lhd hjs;have m6:IntKind.i64.wrap ((i:Int)+1)=(i:Int)+1:=by rw[xwi];omega
   replace h12:=lhd h12;clear hb12 hx28 hx2 hj1 hj2 hput h8 h58 hfl hfll
   go_wp2_with fail
   go_region_held3 (fun W':World=>W'.cell? ⟨g,0,none⟩=some (.slice A 32 c)/\W'.cell? ⟨g,1,none⟩=some (.int .i64 (h:Int))/\W'.cell? ⟨g,2,none⟩=some (.int .i64 (i:Int)))
    (first | exact K.out _ hb13 | exact K3.out _ _ _ _ hb13 | (refine K.out _ ?_;(repeat (first | exact Below.refl _ _ | (refine bgo ?_ (balloc _ _)) | (refine bgo ?_ (bdrew _)) | (refine bgo ?_ (by assumption))));done) | (go_keep;done))
    (first
     | (go_at_call 85;refine hjs.out.mono ?_;rintro e W13 ⟨v13,rfl,h13,hb13⟩
        obtain⟨A13,c13,rfl,-,-⟩:=h13.sees.mk_;replace hb13:=bgo (balloc W12 (.cells #[.slice A 32 c] 25)) ((bdrew _).trans hb13);have h12':=h12.out.below hb13;have hz:=Z.out W13 hb13;have z0:W13.cell? ⟨g+1,0,none⟩=some (.slice none 0 0):=hz.cell 0;have z1:W13.cell? ⟨g+1,1,none⟩=some (.int .i64 0):=hz.cell 1;have z2:W13.cell? ⟨g+1,2,none⟩=some (.int .i64 0):=hz.cell 2;have f0:=hz.frozen 0;have f1:=hz.frozen 1;have f2:=hz.frozen 2))
   all_goals
    have k10:OwnB (((W13.setCell ⟨g+1,0,none⟩ (.slice A13 seed.length c13)).setCell ⟨g+1,1,none⟩ (.int .i64 (h:Int))).setCell ⟨g+1,2,none⟩ (.int .i64 ((i:Int)+1))) W12.heap.size (.slice A13 seed.length c13) seed:=
     ownsRow_setCell_below (ownsRow_setCell_below (ownsRow_setCell_below (OwnB.mono h13 (balloc W12 _).size) (by dsimp only;exact hlt1) _) (by dsimp only;exact hlt1) _) (by dsimp only;exact hlt1) _
    have k11:OwnB (((W13.setCell ⟨g+1,0,none⟩ (.slice A13 seed.length c13)).setCell ⟨g+1,1,none⟩ (.int .i64 (h:Int))).setCell ⟨g+1,2,none⟩ (.int .i64 ((i:Int)+1))) W8.heap.size (.slice A12 SG.length c12) SG:=
     ownsRow_setCell_below (ownsRow_setCell_below (ownsRow_setCell_below h12' (by dsimp only;exact hlt8.out) _) (by dsimp only;exact hlt8.out) _) (by dsimp only;exact hlt8.out) _
    have kz:=((hz.set 0 (.slice A13 seed.length c13)).set 1 (.int .i64 (h:Int))).set 2 (.int .i64 ((i:Int)+1));simp only[xss,xsz] at kz;have hgw:w.heap.size<=g+1:=by have:=hg.out;omega
    have hend:Below w.heap.size w (((W13.setCell ⟨g+1,0,none⟩ (.slice A13 seed.length c13)).setCell ⟨g+1,1,none⟩ (.int .i64 (h:Int))).setCell ⟨g+1,2,none⟩ (.int .i64 ((i:Int)+1))):=
     (((bgo hb8.out hb13).setCell (p:=⟨g+1,0,none⟩) hgw _).setCell (p:=⟨g+1,1,none⟩) hgw _).setCell (p:=⟨g+1,2,none⟩) hgw _
    clear h12' h13 hz z0 z1 z2 f0 f1 f2 hb13 K K3 Z;generalize ((W13.setCell ⟨g+1,0,none⟩ (.slice A13 seed.length c13)).setCell ⟨g+1,1,none⟩ (.int .i64 (h:Int))).setCell ⟨g+1,2,none⟩ (.int .i64 ((i:Int)+1))=W14 at *;have z0:W14.cell? ⟨g+1,0,none⟩=some (.slice A13 seed.length c13):=kz.cell 0;have z1:W14.cell? ⟨g+1,1,none⟩=some (.int .i64 (h:Int)):=kz.cell 1;have z2:W14.cell? ⟨g+1,2,none⟩=some (.int .i64 ((i:Int)+1)):=kz.cell 2
    go_wp2_with fail
    refine bodyPost_ret (v:=.tuple #[.agg #[.slice A13 seed.length c13,.int .i64 (h:Int),.int .i64 ((i:Int)+1)],.slice A12 SG.length c12,.int .i64 0]) (by simp[results,results114,go_sem,z0,z1,z2]) rfl ?_;exact⟨_,_,rfl,k10.sees,by rw[hSG.out];exact k11.sees,hend⟩
theorem rsign_bad3 (B:Nat) (u u2:Value) (seed:Bs) (h n:Int) (w:World) (hu:SeesB w B u seed) (hB:B<=w.heap.size) (hv:validI seed h n=false) :
 Calls prog 114 #[.agg #[u,.int .i64 h,.int .i64 n],u2] w (SignBad 3 w):=by
 obtain⟨A,c,rfl,-,-⟩:=hu.mk_;have hval:=fun W (hW:SeesB W B (.slice A seed.length c) seed)=>rsvalid_any B _ seed h n W hW
 rw[hv] at hval;replace hval:=lhd hval;replace hv:=lhd hv;replace hu:=lhd hu
 go_enter func114,ntmps114
 go_wp2_with fail
 have hb0:Below w.heap.size w ((w.alloc (.cells #[.slice A seed.length c,.int .i64 h,.int .i64 n] 27)).alloc (.cells #[.slice none 0 0,.int .i64 0,.int .i64 0] 27)):=bgo (balloc w _) (balloc _ _);have hx1:=Box.below (Box.new w 27 [.slice A seed.length c,.int .i64 h,.int .i64 n]) (balloc _ (.cells #[.slice none 0 0,.int .i64 0,.int .i64 0] 27));have hx2:=Box.new (w.alloc (.cells #[.slice A seed.length c,.int .i64 h,.int .i64 n] 27)) 27 [.slice none 0 0,.int .i64 0,.int .i64 0];have hz:(w.alloc (.cells #[.slice A seed.length c,.int .i64 h,.int .i64 n] 27)).heap.size=w.heap.size+1:=xsa _ _;rw[hz] at hx2;change Box ((w.alloc (.cells #[.slice A seed.length c,.int .i64 h,.int .i64 n] 27)).alloc (.cells #[.slice none 0 0,.int .i64 0,.int .i64 0] 27)) _ _ _ at hx1 hx2;generalize (w.alloc (.cells #[.slice A seed.length c,.int .i64 h,.int .i64 n] 27)).alloc (.cells #[.slice none 0 0,.int .i64 0,.int .i64 0] 27)=W0 at *;clear hz;obtain⟨g,hg⟩:∃g,g=w.heap.size:=⟨_,rfl⟩
 rw[<-hg] at hx1 hx2 ⊢;replace hg:=lhd hg;replace hb0:=lhd hb0;refine (hval.out W0 (hu.out.below (hb0.out.mono hB))).mono ?_;rintro e W1 ⟨rfl,hb1⟩;replace hx1:=hx1.below hb1;replace hx2:=hx2.below hb1;replace hb1:=bgo hb0.out hb1;have z0:W1.cell? ⟨g+1,0,none⟩=some (.slice none 0 0):=hx2.cell 0;have z1:W1.cell? ⟨g+1,1,none⟩=some (.int .i64 0):=hx2.cell 1;have z2:W1.cell? ⟨g+1,2,none⟩=some (.int .i64 0):=hx2.cell 2;have f0:=hx2.frozen 0;have f1:=hx2.frozen 1;have f2:=hx2.frozen 2;have kz:=((hx2.set 0 (.slice none 0 0)).set 1 (.int .i64 0)).set 2 (.int .i64 0);simp only[xss,xsz] at kz;have hgw:w.heap.size<=g+1:=by have:=hg.out;omega
 have hlt:=hx2.lt;have hend:Below w.heap.size w (((W1.setCell ⟨g+1,0,none⟩ (.slice none 0 0)).setCell ⟨g+1,1,none⟩ (.int .i64 0)).setCell ⟨g+1,2,none⟩ (.int .i64 0)):=
  ((hb1.setCell (p:=⟨g+1,0,none⟩) hgw _).setCell (p:=⟨g+1,1,none⟩) hgw _).setCell (p:=⟨g+1,2,none⟩) hgw _
 replace kz:=lhd kz;replace hend:=lhd hend;clear hx1 hx2 hb1 hval hb0;dsimp only
 go_wp2_with fail
 have kz2:=kz.out;have hend2:=hend.out;clear kz hend z0 z1 z2 f0 f1 f2;generalize ((W1.setCell ⟨g+1,0,none⟩ (.slice none 0 0)).setCell ⟨g+1,1,none⟩ (.int .i64 0)).setCell ⟨g+1,2,none⟩ (.int .i64 0)=W2 at *;have z0:W2.cell? ⟨g+1,0,none⟩=some (.slice none 0 0):=kz2.cell 0;have z1:W2.cell? ⟨g+1,1,none⟩=some (.int .i64 0):=kz2.cell 1;have z2:W2.cell? ⟨g+1,2,none⟩=some (.int .i64 0):=kz2.cell 2;refine bodyPost_ret (v:=.tuple #[.agg #[.slice none 0 0,.int .i64 0,.int .i64 0],.slice none 0 0,.int .i64 3]) (by simp[results,results114,go_sem,z0,z1,z2]) rfl ?_;exact⟨rfl,hend2⟩
theorem rsign_bad7 (B:Nat) (u u2:Value) (seed:Bs) (k:Nat) (w:World) (hu:SeesB w B u seed) (hB:B<=w.heap.size) (hl:seed.length=32) (hk:k<=6) :
 Calls prog 114 #[.agg #[u,.int .i64 (k:Int),.int .i64 ((2 ^ k:Nat):Int)],u2] w (SignBad 7 w):=by
 have hv:=validI_mk seed k (2 ^ k) hl hk nlr;clear hl;have hp:=wrap_pow k hk;have hp64:=pow_le64 k hk;have m0:IntKind.u64.wrap (k:Int)=(k:Int):=by rw[IntKind.wrap_u64];omega
 generalize 2 ^ k=N at *;obtain⟨A,c,rfl,-,-⟩:=hu.mk_;have hval:=fun W (hW:SeesB W B (.slice A seed.length c) seed)=>rsvalid_any B _ seed k N W hW
 rw[hv] at hval;replace hval:=lhd hval;replace hv:=lhd hv;replace hu:=lhd hu
 go_enter func114,ntmps114
 go_wp2_with fail
 have hb0:Below w.heap.size w ((w.alloc (.cells #[.slice A seed.length c,.int .i64 (k:Int),.int .i64 (N:Int)] 27)).alloc (.cells #[.slice none 0 0,.int .i64 0,.int .i64 0] 27)):=bgo (balloc w _) (balloc _ _);have hx1:=Box.below (Box.new w 27 [.slice A seed.length c,.int .i64 (k:Int),.int .i64 (N:Int)]) (balloc _ (.cells #[.slice none 0 0,.int .i64 0,.int .i64 0] 27));have hx2:=Box.new (w.alloc (.cells #[.slice A seed.length c,.int .i64 (k:Int),.int .i64 (N:Int)] 27)) 27 [.slice none 0 0,.int .i64 0,.int .i64 0];have hz:(w.alloc (.cells #[.slice A seed.length c,.int .i64 (k:Int),.int .i64 (N:Int)] 27)).heap.size=w.heap.size+1:=xsa _ _;rw[hz] at hx2;change Box ((w.alloc (.cells #[.slice A seed.length c,.int .i64 (k:Int),.int .i64 (N:Int)] 27)).alloc (.cells #[.slice none 0 0,.int .i64 0,.int .i64 0] 27)) _ _ _ at hx1 hx2;generalize (w.alloc (.cells #[.slice A seed.length c,.int .i64 (k:Int),.int .i64 (N:Int)] 27)).alloc (.cells #[.slice none 0 0,.int .i64 0,.int .i64 0] 27)=W0 at *;clear hz;obtain⟨g,hg⟩:∃g,g=w.heap.size:=⟨_,rfl⟩
 rw[<-hg] at hx1 hx2 ⊢;replace hg:=lhd hg;replace hb0:=lhd hb0;refine (hval.out W0 (hu.out.below (hb0.out.mono hB))).mono ?_;rintro e W1 ⟨rfl,hb1⟩;replace hx1:=hx1.below hb1;replace hx2:=hx2.below hb1;replace hb1:=bgo hb0.out hb1;have c1:W1.cell? ⟨g,1,none⟩=some (.int .i64 (k:Int)):=hx1.cell 1;have c2:W1.cell? ⟨g,2,none⟩=some (.int .i64 (N:Int)):=hx1.cell 2;have z0:W1.cell? ⟨g+1,0,none⟩=some (.slice none 0 0):=hx2.cell 0;have z1:W1.cell? ⟨g+1,1,none⟩=some (.int .i64 0):=hx2.cell 1;have z2:W1.cell? ⟨g+1,2,none⟩=some (.int .i64 0):=hx2.cell 2;have f0:=hx2.frozen 0;have f1:=hx2.frozen 1;have f2:=hx2.frozen 2;have kz:=((hx2.set 0 (.slice none 0 0)).set 1 (.int .i64 0)).set 2 (.int .i64 0);simp only[xss,xsz] at kz;have hgw:w.heap.size<=g+1:=by have:=hg.out;omega
 have hlt:=hx2.lt;have hend:Below w.heap.size w (((W1.setCell ⟨g+1,0,none⟩ (.slice none 0 0)).setCell ⟨g+1,1,none⟩ (.int .i64 0)).setCell ⟨g+1,2,none⟩ (.int .i64 0)):=
  ((hb1.setCell (p:=⟨g+1,0,none⟩) hgw _).setCell (p:=⟨g+1,1,none⟩) hgw _).setCell (p:=⟨g+1,2,none⟩) hgw _
 replace kz:=lhd kz;replace hend:=lhd hend;clear hx1 hx2 hb1 hval hb0;dsimp only
 go_wp2_with fail
 have kz2:=kz.out;have hend2:=hend.out;clear kz hend z0 z1 z2 f0 f1 f2;generalize ((W1.setCell ⟨g+1,0,none⟩ (.slice none 0 0)).setCell ⟨g+1,1,none⟩ (.int .i64 0)).setCell ⟨g+1,2,none⟩ (.int .i64 0)=W2 at *;have z0:W2.cell? ⟨g+1,0,none⟩=some (.slice none 0 0):=kz2.cell 0;have z1:W2.cell? ⟨g+1,1,none⟩=some (.int .i64 0):=kz2.cell 1;have z2:W2.cell? ⟨g+1,2,none⟩=some (.int .i64 0):=kz2.cell 2;refine bodyPost_ret (v:=.tuple #[.agg #[.slice none 0 0,.int .i64 0,.int .i64 0],.slice none 0 0,.int .i64 7]) (by simp[results,results114,go_sem,z0,z1,z2]) rfl ?_;exact⟨rfl,hend2⟩
end Go.Proofs.YtjgepckncogdaaaGreat
