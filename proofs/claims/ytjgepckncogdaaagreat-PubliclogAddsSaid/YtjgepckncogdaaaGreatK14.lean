/- Contracts of functions, walks, plain facts. Conditions: those of each theorem. -/
import Derived.Test.YtjgepckncogdaaaGreatK13
set_option linter.unusedVariables false
set_option linter.unusedSimpArgs false
set_option linter.unusedSectionVars false
set_option maxRecDepth 100000
set_option maxHeartbeats 16000000
namespace Go.Proofs.YtjgepckncogdaaaGreat
open Go Go.RowKit _root_.Go.Proofs.Tryz
attribute [local go_sem ↓] Go.wp_at_zero Go.wp_at_succ
def pad4 (l:Bs):Bs:=l++List.replicate ((4 - l.length % 4) % 4) 0
def lenV:Value->Nat
 | .slice _ n _=>n
 | _=>0
theorem pad_step (l:Bs) (k:Nat):l++List.replicate (k+1) (0:UInt8)=l++List.replicate k 0++[0]:=by
 rw[List.replicate_succ',xaa]
theorem pad4_len (l:Bs):(pad4 l).length=l.length+(4 - l.length % 4) % 4:=by simp[pad4]
theorem pad_any (B:Nat) (u:Value) (l:Bs) (w:World) (hu:SeesB w B u l) (hB:B<=w.heap.size) (hl:l.length<=1048576) :
 Calls prog 145 #[u,.int .i64 4] w (Gives (pad4 l) w):=by
 have hc:=lhd (clone_any B u l w hu hB (by omega));obtain⟨A,c,rfl,-,-⟩:=hu.mk_
 go_enter func145,ntmps145
 go_wp2_with fail
 refine hc.out.mono ?_;rintro e w1 ⟨v1,rfl,h1,hb1⟩;replace h1:=lhd h1;replace hb1:=lhd hb1;clear hc hu;dsimp only
 go_wp2_with fail
 go_loopw [5] (fun r wr=>∃k:Nat,k<=(4 - l.length % 4) % 4/\Hid (OwnB wr w.heap.size r (l++List.replicate k 0))/\Hid (Below w.heap.size w wr)) (fun r _=>l.length+4 - lenV r)
 case atStart=>exact⟨0,by omega,by show OwnB _ _ _ _;simpa using h1.out,hb1⟩
 case round=>
  clear h1 hb1;obtain⟨k,hk,ho,hb⟩:=hrel;have hlen:(l++List.replicate k (0:UInt8)).length=l.length+k:=by simp
  have hst:=lhd (pad_step l k);obtain⟨Ar,cr,rfl,-,-⟩:=ho.out.sees.mk_
  by_cases hlt:k<(4 - l.length % 4) % 4
  ·have i0:¬((((l++List.replicate k (0:UInt8)).length:Nat):Int) % 4=0):=by rw[hlen];omega
   generalize l++List.replicate k (0:UInt8)=acc at *;replace hlen:=lhd hlen;have hal:=balloc wr (.cells #[.int .u8 0] 5);have ho2:=lhd (ho.out.below hal);have hcl:=lhd (one_byte wr 0 0 rfl).sees;have hb2:=lhd (bgo hb.out hal);clear hal
   go_wp2_with (at_builtin;refine wpList_app (by rfl) _ _ rfl w.heap.size _ acc rfl ho2.out _ _ [0] rfl hcl.out (by have:=hlen.out;simp;omega) hb2.out.size ?_)
   intro v' w' hW2 hb4;have hW3:=hW2.sees.mk_;obtain⟨A9,c9,rfl,-,-⟩:=hW3;have hW2:=lhd hW2;have hb4:=lhd (hb2.out.trans hb4)
   go_wp2_with fail
   go_roundw
   case rel=>exact⟨k+1,by omega,by rw[hst.out];exact hW2.out,hb4⟩
   case measure=>have:=hlen.out;simp[lenV];omega
  have i0:((((l++List.replicate k (0:UInt8)).length:Nat):Int) % 4=0):=by rw[hlen];omega
  have hp:Hid (pad4 l=l++List.replicate k 0):=by show _=_;rw[pad4,show (4 - l.length % 4) % 4=k by omega]
  generalize l++List.replicate k (0:UInt8)=acc at *;replace hlen:=lhd hlen
  go_wp2_with fail
  go_returns
  exact⟨_,rfl,by rw[hp.out];exact ho.out,hb.out⟩
theorem rpad_any (B:Nat) (u:Value) (l:Bs) (w:World) (hu:SeesB w B u l) (hB:B<=w.heap.size) (hl:l.length<=1048576) :
 Calls prog 263 #[u,.int .i64 4] w (Gives (pad4 l) w):=by
 obtain⟨A,c,rfl,-,-⟩:=hu.mk_;have hl3:=seesL_lit w 25 (show SeesAll w w.heap.size [.slice A l.length c] [l] from⟨hu.more hB,trivial⟩) (by simp[maxLen]);have hfl:[l].flatten=l:=by simp
 have hc:=rjoin_any _ _ _ _ hl3 nlr (by rw[hfl];omega);rw[hfl] at hc;replace hc:=lhd hc;clear hl3 hu
 go_enter func263,ntmps263
 go_wp2_with fail
 refine hc.out.mono ?_;rintro e w1 ⟨v1,rfl,h1,hb1⟩;replace h1:=lhd (h1.mono (balloc w (.cells #[.slice A l.length c] 25)).size);replace hb1:=lhd (bgo (balloc w _) hb1);clear hc;dsimp only
 go_wp2_with fail
 go_loopw [5] (fun r wr=>∃k:Nat,k<=(4 - l.length % 4) % 4/\Hid (OwnB wr w.heap.size r (l++List.replicate k 0))/\Hid (Below w.heap.size w wr)) (fun r _=>l.length+4 - lenV r)
 case atStart=>exact⟨0,by omega,by show OwnB _ _ _ _;simpa using h1.out,hb1⟩
 case round=>
  clear h1 hb1;obtain⟨k,hk,ho,hb⟩:=hrel;have hlen:(l++List.replicate k (0:UInt8)).length=l.length+k:=by simp
  have hst:=lhd (pad_step l k);obtain⟨Ar,cr,rfl,-,-⟩:=ho.out.sees.mk_
  by_cases hlt:k<(4 - l.length % 4) % 4
  ·have i0:¬((((l++List.replicate k (0:UInt8)).length:Nat):Int) % 4=0):=by rw[hlen];omega
   generalize l++List.replicate k (0:UInt8)=acc at *;replace hlen:=lhd hlen;have hal:=balloc wr (.cells #[.int .u8 0] 5);have ho2:=lhd (ho.out.below hal);have hcl:=lhd (one_byte wr 0 0 rfl).sees;have hb2:=lhd (bgo hb.out hal);clear hal
   go_wp2_with (at_builtin;refine wpList_app (by rfl) _ _ rfl w.heap.size _ acc rfl ho2.out _ _ [0] rfl hcl.out (by have:=hlen.out;simp;omega) hb2.out.size ?_)
   intro v' w' hW2 hb4;have hW3:=hW2.sees.mk_;obtain⟨A9,c9,rfl,-,-⟩:=hW3;have hW2:=lhd hW2;have hb4:=lhd (hb2.out.trans hb4)
   go_wp2_with fail
   go_roundw
   case rel=>exact⟨k+1,by omega,by rw[hst.out];exact hW2.out,hb4⟩
   case measure=>have:=hlen.out;simp[lenV];omega
  have i0:((((l++List.replicate k (0:UInt8)).length:Nat):Int) % 4=0):=by rw[hlen];omega
  have hp:Hid (pad4 l=l++List.replicate k 0):=by show _=_;rw[pad4,show (4 - l.length % 4) % 4=k by omega]
  generalize l++List.replicate k (0:UInt8)=acc at *;replace hlen:=lhd hlen
  go_wp2_with fail
  go_returns
  exact⟨_,rfl,by rw[hp.out];exact ho.out,hb.out⟩
def headN (b:Bs):Nat:=(b.getD 0 0).toNat
def sizeN (b:Bs):Nat:=565+32 * headN b
def unpadG (b:Bs):Option Bs:=
 if b.length=0\/6<headN b\/b.length<sizeN b then none else if pad4 (b.take (sizeN b))=b then some (b.take (sizeN b)) else none
def UnpadP (x:Option Bs) (w:World) (e:Ending) (w':World):Prop:=
 match x with
 | none=>∃A n c,e=.returned (.tuple #[.slice A n c,.bool false])/\Below w.heap.size w w'
 | some s=>∃v,e=.returned (.tuple #[v,.bool true])/\SeesB w' w'.heap.size v s/\Below w.heap.size w w'
theorem unpad_no (b:Bs) (h:b.length=0\/6<headN b\/b.length<sizeN b):unpadG b=none:=by unfold unpadG;rw[if_pos h]
theorem tlength_any (h:Nat) (w:World) (hh:h<=255):Calls prog 217 #[.int .i64 (h:Int)] w fun e w'=>e=.returned (.int .i64 ((565+32 * h:Nat):Int))/\w'=w:=by
 go_enter func217,ntmps217
 go_wp2_with fail
 go_ret
 exact⟨ret_int (by omega),rfl⟩
theorem rsize_any (h:Nat) (w:World) (hh:h<=255):Calls prog 264 #[.int .i64 (h:Int)] w fun e w'=>e=.returned (.int .i64 ((565+32 * h:Nat):Int))/\w'=w:=by
 go_enter func264,ntmps264
 go_wp2_with fail
 go_ret
 exact⟨ret_int (by omega),rfl⟩
theorem padded_any (B:Nat) (u:Value) (l:Bs) (w:World) (hu:SeesB w B u l) (hB:B<=w.heap.size) (hl:l.length<=1048576) :
 Calls prog 75 #[u] w (Gives (pad4 l) w):=by
 have hp:=lhd (pad_any B u l w hu hB hl)
 go_enter func75,ntmps75
 go_wp2_with fail
 refine hp.out.mono ?_;rintro e w1 ⟨v1,rfl,h1,hb1⟩;dsimp only
 go_wp2_with fail
 go_ret
 exact⟨v1,rfl,h1,hb1⟩
theorem cut_any (B:Nat) (u:Value) (b:Bs) (w:World) (hu:SeesB w B u b) (hB:B<=w.heap.size) (hl:b.length<=4096) :
 Calls prog 150 #[u] w (UnpadP (unpadG b) w):=by
 obtain⟨A,c,rfl,hc1,hc2⟩:=hu.mk_
 by_cases g0:b.length=0
 ·rw[unpad_no b (.inl g0)]
  have i0:(b.length:Int)=0:=by omega
  go_enter func150,ntmps150
  go_wp2_with fail
  go_returns
  exact⟨_,_,_,rfl,Below.refl _ _⟩
 have hh:headN b<=255:=by have:=(b.getD 0 0).toNat_lt;unfold headN;omega
 obtain⟨g,o,rfl,hgB,hcell⟩:=hu.at_ (by omega);have x0:w.cell? ⟨g,o,none⟩=some (.int .u8 (headN b:Int)):=hcell 0 (by omega);have i0:¬(b.length:Int)=0:=by omega
 have i9:(0:Int)<(b.length:Int):=by omega
 by_cases g1:6<headN b
 ·rw[unpad_no b (.inr (.inl g1))]
  have i1:(6:Int)<(headN b:Int):=by omega
  generalize headN b=h at *
  go_enter func150,ntmps150
  go_wp2_with fail
  go_returns
  exact⟨_,_,_,rfl,Below.refl _ _⟩
 have i1:¬(6:Int)<(headN b:Int):=by omega
 have iw:IntKind.i64.wrap (headN b:Int)=(headN b:Int):=by rw[xwi];omega
 have hlen:=fun W=>tlength_any (headN b) W hh
 have hsn:565+32 * headN b=sizeN b:=rfl;rw[hsn] at hlen
 by_cases g2:b.length<sizeN b
 ·rw[unpad_no b (.inr (.inr g2))]
  have i2:(b.length:Int)<(sizeN b:Int):=by omega
  generalize headN b=h at *;generalize sizeN b=z at *;replace hlen:=lhd hlen
  go_enter func150,ntmps150
  go_wp2_with fail
  refine (hlen.out _).mono ?_;rintro e w0 ⟨rfl,rfl⟩;dsimp only
  go_wp2_with fail
  go_returns
  exact⟨_,_,_,rfl,Below.refl _ _⟩
 have i2:¬(b.length:Int)<(sizeN b:Int):=by omega
 have hug:unpadG b=if pad4 (b.take (sizeN b))=b then some (b.take (sizeN b)) else none:=by unfold unpadG;rw[if_neg (by omega)]
 have hs:=hu.take (m:=sizeN b) (c':=c) (by omega) (by omega) hc2;have hl2:(b.take (sizeN b)).length=sizeN b:=by rw[xlt];omega
 have i3:(sizeN b:Int)<=(c:Int):=by omega
 have hcl:=lhd (fun W (hW:Below w.heap.size w W)=>bclone_any B _ (b.take (sizeN b)) W (hs.below (hW.mono hB)) (Nat.le_trans hB hW.size) (by omega));have hpd:=lhd (fun W (hW:Below w.heap.size w W)=>padded_any B _ (b.take (sizeN b)) W (hs.below (hW.mono hB)) (Nat.le_trans hB hW.size) (by omega));have heq:=lhd (fun W v (hW:Below w.heap.size w W) (hv:SeesB W W.heap.size v (pad4 (b.take (sizeN b))))=>equal_any _ _ v _ (pad4 (b.take (sizeN b))) b W hv (hu.below (hW.mono hB)));clear hs hu;generalize b.take (sizeN b)=s at *;generalize headN b=h at *;generalize sizeN b=z at *;have iz:(0:Int)<=(z:Int):=by omega
 replace hlen:=lhd hlen;replace hl2:=lhd hl2;replace hug:=lhd hug
 go_enter func150,ntmps150
 go_wp2_with fail
 refine (hlen.out _).mono ?_;rintro e w0 ⟨rfl,hw0⟩;obtain rfl:=hw0.symm;dsimp only
 go_wp2_with fail
 refine (hlen.out _).mono ?_;rintro e w0 ⟨rfl,hw0⟩;obtain rfl:=hw0.symm;dsimp only
 go_wp2_with fail
 refine (hcl.out _ (Below.refl _ _)).mono ?_;rintro e w1 ⟨v1,rfl,h1,hb1⟩;obtain⟨A1,c1,rfl,-,-⟩:=h1.sees.mk_;dsimp only
 go_wp2_with fail
 refine (hpd.out _ hb1).mono ?_;rintro e w2 ⟨v2,rfl,h2,hb2⟩;have hb3:=bgo hb1 hb2;have hq:=lhd (heq.out w2 v2 hb3 h2.sees);have h3:=(h1.below hb2).sees;replace h1:=lhd h1;replace h2:=lhd h2;dsimp only
 go_wp2_with fail
 refine hq.out.mono ?_;rintro e w0 ⟨rfl,hw0⟩;obtain rfl:=hw0.symm;dsimp only
 by_cases g3:pad4 s=b
 ·have hu9:Hid (unpadG b=some s):=by show _=_;rw[hug.out,if_pos g3]
  have hq9:(pad4 s == b)=true:=by simp[g3]
  generalize (pad4 s == b)=Q at *;subst hq9;replace g3:=lhd g3
  go_wp2_with fail
  go_returns
  show UnpadP _ _ _ _;rw[hu9.out];exact⟨_,rfl,h3,hb3⟩
 have hu9:Hid (unpadG b=none):=by show _=_;rw[hug.out,if_neg g3]
 have hq9:(pad4 s == b)=false:=by simp[g3]
 generalize (pad4 s == b)=Q at *;subst hq9;replace g3:=lhd g3
 go_wp2_with fail
 go_returns
 show UnpadP _ _ _ _;rw[hu9.out];exact⟨_,_,_,rfl,hb3⟩
theorem unpad_any (B:Nat) (u:Value) (b:Bs) (w:World) (hu:SeesB w B u b) (hB:B<=w.heap.size) (hl:b.length<=4096) :
 Calls prog 262 #[u] w (UnpadP (unpadG b) w):=by
 obtain⟨A,c,rfl,hc1,hc2⟩:=hu.mk_
 by_cases g0:b.length=0
 ·rw[unpad_no b (.inl g0)]
  have i0:(b.length:Int)=0:=by omega
  go_enter func262,ntmps262
  go_wp2_with fail
  go_returns
  exact⟨_,_,_,rfl,Below.refl _ _⟩
 have hh:headN b<=255:=by have:=(b.getD 0 0).toNat_lt;unfold headN;omega
 obtain⟨g,o,rfl,hgB,hcell⟩:=hu.at_ (by omega);have x0:w.cell? ⟨g,o,none⟩=some (.int .u8 (headN b:Int)):=hcell 0 (by omega);have i0:¬(b.length:Int)=0:=by omega
 have i9:(0:Int)<(b.length:Int):=by omega
 by_cases g1:6<headN b
 ·rw[unpad_no b (.inr (.inl g1))]
  have i1:(6:Int)<(headN b:Int):=by omega
  generalize headN b=h at *
  go_enter func262,ntmps262
  go_wp2_with fail
  go_returns
  exact⟨_,_,_,rfl,Below.refl _ _⟩
 have i1:¬(6:Int)<(headN b:Int):=by omega
 have iw:IntKind.i64.wrap (headN b:Int)=(headN b:Int):=by rw[xwi];omega
 have hlen:=fun W=>rsize_any (headN b) W hh
 have hsn:565+32 * headN b=sizeN b:=rfl;rw[hsn] at hlen
 by_cases g2:b.length<sizeN b
 ·rw[unpad_no b (.inr (.inr g2))]
  have i2:(b.length:Int)<(sizeN b:Int):=by omega
  generalize headN b=h at *;generalize sizeN b=z at *;replace hlen:=lhd hlen
  go_enter func262,ntmps262
  go_wp2_with fail
  refine (hlen.out _).mono ?_;rintro e w0 ⟨rfl,rfl⟩;dsimp only
  go_wp2_with fail
  go_returns
  exact⟨_,_,_,rfl,Below.refl _ _⟩
 have i2:¬(b.length:Int)<(sizeN b:Int):=by omega
 have hug:unpadG b=if pad4 (b.take (sizeN b))=b then some (b.take (sizeN b)) else none:=by unfold unpadG;rw[if_neg (by omega)]
 have hs:=hu.take (m:=sizeN b) (c':=c) (by omega) (by omega) hc2;have hl2:(b.take (sizeN b)).length=sizeN b:=by rw[xlt];omega
 have i3:(sizeN b:Int)<=(c:Int):=by omega
 have hl3:=fun W0 (hW0:Below w.heap.size w W0)=>seesL_lit W0 25 (show SeesAll W0 W0.heap.size [.slice (some ⟨g,o,none⟩) (sizeN b) c] [b.take (sizeN b)] from⟨(hs.below (hW0.mono hB)).more (Nat.le_trans hB hW0.size),trivial⟩) (by simp[maxLen])
 have hfl:[b.take (sizeN b)].flatten=b.take (sizeN b):=by simp
 have hcl:=lhd (fun W0 (hW0:Below w.heap.size w W0)=>by
  have h9:=rjoin_any _ _ _ _ (hl3 W0 hW0) nlr (by rw[hfl];omega);rw[hfl] at h9;exact h9)
 have hpd:=lhd (fun W (hW:Below w.heap.size w W)=>rpad_any B _ (b.take (sizeN b)) W (hs.below (hW.mono hB)) (Nat.le_trans hB hW.size) (by omega));have heq:=lhd (fun W v (hW:Below w.heap.size w W) (hv:SeesB W W.heap.size v (pad4 (b.take (sizeN b))))=>rsame_any _ _ v _ (pad4 (b.take (sizeN b))) b W hv (hu.below (hW.mono hB)));clear hs hu hl3 hfl;generalize b.take (sizeN b)=s at *;generalize headN b=h at *;generalize sizeN b=z at *;have iz:(0:Int)<=(z:Int):=by omega
 replace hlen:=lhd hlen;replace hl2:=lhd hl2;replace hug:=lhd hug
 go_enter func262,ntmps262
 go_wp2_with fail
 refine (hlen.out _).mono ?_;rintro e w0 ⟨rfl,hw0⟩;obtain rfl:=hw0.symm;dsimp only
 go_wp2_with fail
 refine (hpd.out _ (Below.refl _ _)).mono ?_;rintro e w2 ⟨v2,rfl,h2,hb3⟩;have hq:=lhd (heq.out w2 v2 hb3 h2.sees);replace h2:=lhd h2;dsimp only
 go_wp2_with fail
 refine hq.out.mono ?_;rintro e w0 ⟨rfl,hw0⟩;obtain rfl:=hw0.symm;dsimp only
 by_cases g3:pad4 s=b
 ·have hu9:Hid (unpadG b=some s):=by show _=_;rw[hug.out,if_pos g3]
  have hq9:(pad4 s == b)=true:=by simp[g3]
  generalize (pad4 s == b)=Q at *;subst hq9;replace g3:=lhd g3
  go_wp2_with fail
  refine (hcl.out _ hb3).mono ?_;rintro e w3 ⟨v3,rfl,h3,hb4⟩;dsimp only
  go_wp2_with fail
  go_returns
  show UnpadP _ _ _ _;rw[hu9.out];exact⟨_,rfl,h3.sees,bgo (bgo hb3 (balloc _ _)) hb4⟩
 have hu9:Hid (unpadG b=none):=by show _=_;rw[hug.out,if_neg g3]
 have hq9:(pad4 s == b)=false:=by simp[g3]
 generalize (pad4 s == b)=Q at *;subst hq9;replace g3:=lhd g3
 go_wp2_with fail
 go_returns
 show UnpadP _ _ _ _;rw[hu9.out];exact⟨_,_,_,rfl,hb3⟩
def nINDX:Bs:=[73,78,68,88]
def nNUMB:Bs:=[78,85,77,66]
def nPATH:Bs:=[80,65,84,72]
def nSIGN:Bs:=[83,73,71,78]
def nSREP:Bs:=[83,82,69,80]
def nROOT:Bs:=[82,79,79,84]
def nSPAN:Bs:=[83,80,65,78]
def names5:List Bs:=[nINDX,nNUMB,nPATH,nSIGN,nSREP]
def names2:List Bs:=[nROOT,nSPAN]
theorem rows_lit (W:World) (T:TypeId) (xs:List Value) (h:xs.length<=1000):Sees (W.alloc (.cells xs.toArray T)) (W.heap.size+1) (.slice (some ⟨W.heap.size,0,none⟩) xs.length xs.length) 1 xs.length xs:=
 ⟨by omega,_,_,rfl,Nat.le_refl _,by unfold maxLen;omega,fun _=>⟨W.heap.size,0,rfl,by omega,fun j u hj=>by have:=(Box.new W T xs).cell j;rw[Nat.zero_add,this,hj]⟩⟩
theorem names_lit (W:World) (T:TypeId) (ns:List Bs) (h:ns.length<=1000):SeesR (W.alloc (.cells (ns.map fun s=>Value.string (strB s)).toArray T)) (W.heap.size+1) (.slice (some ⟨W.heap.size,0,none⟩) ns.length ns.length) 1 ns.length (nameS ns):=by
 have h1:=rows_lit W T (ns.map fun s=>Value.string (strB s)) (by simpa using h);rw[xlm] at h1;refine⟨by simp[nameS],_,h1,fun k s hk=>?_⟩;simp only[nameS,xgm,Option.map_eq_some_iff] at hk;obtain⟨x,hx,rfl⟩:=hk;exact⟨.string (strB x),by simp[hx],rfl,rfl⟩
def NamesP (ns:List Bs) (w:World) (e:Ending) (w':World):Prop:=∃v,e=.returned v/\SeesR w' w'.heap.size v 1 ns.length (nameS ns)/\Below w.heap.size w w'
theorem names_any (w:World):Calls prog 73 #[] w (NamesP names5 w):=by
 have hl:Hid (SeesR (w.alloc (.cells #[.string ⟨#[73,78,68,88]⟩,.string ⟨#[78,85,77,66]⟩,.string ⟨#[80,65,84,72]⟩,.string ⟨#[83,73,71,78]⟩,.string ⟨#[83,82,69,80]⟩] 9)) (w.heap.size+1) (.slice (some ⟨w.heap.size,0,none⟩) 5 5) 1 5 (nameS names5)):=names_lit w 9 names5 (by simp[names5])
 go_enter func73,ntmps73
 go_wp2_with fail
 go_ret
 exact⟨_,rfl,hl.out.more (by rw[xsa];exact Nat.le_refl _),balloc w _⟩
theorem names2_lit (w:World):SeesR (w.alloc (.cells #[.string ⟨#[82,79,79,84]⟩,.string ⟨#[83,80,65,78]⟩] 9)) (w.heap.size+1) (.slice (some ⟨w.heap.size,0,none⟩) 2 2) 1 2 (nameS names2):=names_lit w 9 names2 (by simp[names2])
theorem cutL_next (size n:Nat) (l:Bs) (k:Nat) (hk:k<n):(cutL size n l).take (k+1)=(cutL size n l).take k++[(l.drop (size * k)).take size]:=by
 rw[List.take_succ_eq_append_getElem (by rw[cutL_len];exact hk)]
 congr 2
 have:=cutL_get size n l k hk
 rw[xgd,xge (by rw[cutL_len];exact hk)] at this;exact this
theorem rchunks_any (B:Nat) (u:Value) (l:Bs) (N:Nat) (w:World) (hu:SeesB w B u l) (hB:B<=w.heap.size) (hl:l.length=32 * N) (hN:N<=64) :
 Calls prog 289 #[u] w (GivesL (cutL 32 N l) w):=by
 obtain⟨A,c,rfl,hc1,hc2⟩:=hu.mk_;replace hu:=lhd hu;replace hl:=lhd hl
 go_enter func289,ntmps289
 go_wp2_with fail
 go_loopw [3,4] (fun r t wr=>∃k:Nat,k<=N/\t=.int .i64 (32 * (k:Int))/\Hid (OwnL wr w.heap.size r ((cutL 32 N l).take k))/\Hid (Below w.heap.size w wr)) (fun _ t _=>32 * N+32 - (intOf t).toNat)
 case atStart=>exact⟨0,by omega,rfl,OwnL.nil _ _,Below.refl _ _⟩
 case round=>
  obtain⟨k,hk,rfl,ho,hb⟩:=hrel;obtain⟨Ar,cr,rfl⟩:=ho.out.shape;have hkl:((cutL 32 N l).take k).length=k:=by rw[xlt,cutL_len];omega
  rw[hkl] at ho ⊢;replace hkl:=lhd hkl;have hl':=hl.out
  by_cases hlt:k<N
  ·have hst:=lhd (cutL_next 32 N l k hlt)
   have hr:=run_cut (P:=prog) 25 underlying25 1 byte_size A l.length c .i64 .i64 (32 * (k:Int)) (32 * (k:Int)+32) (by omega) (by omega) (by omega);rw[show (32 * (k:Int)).toNat=32 * k by omega,show (32 * (k:Int)+32).toNat=32 * k+32 by omega] at hr;have hc:=SeesB.cut (a:=32 * k) (b:=32 * k+32) (hu.out.below (hb.out.mono hB)) (by omega) (by omega);rw[show 32 * k+32 - 32 * k=32 by omega] at hc hr;have hcl:((l.drop (32 * k)).take 32).length=32:=by rw[xlt,xld];omega
   generalize (l.drop (32 * k)).take 32=da at *;generalize cutA A c (32 * k) 1=A3 at *;generalize c - 32 * k=c3 at *;generalize (cutL 32 N l).take k=acc at *;have i0:32 * (k:Int)+32<=(l.length:Int):=by omega
   have hel:=Elt.of_old (v:=.slice Ar k cr) hc (Nat.le_trans hB hb.out.size) (fun j hj=>Nat.le_trans hB (ho.out.lt j hj).1);have hal:=balloc wr (.cells #[.slice A3 32 c3] 25);have hbox:=lhd (one_cell wr (.slice A3 32 c3) 25);have ho4:=lhd (ho.out.below hal);have hel4:=lhd (hel.below hal);have hb4:=lhd (bgo hb.out hal);replace hcl:=lhd hcl;clear hal hel hc hl'
   go_wp2_with (at_builtin;refine wpList_appL (by rfl) _ _ 30 underlying30 rfl w.heap.size _ acc rfl ho4.out _ _ _ da rfl hbox.out hel4.out (by have:=hkl.out;omega) hb4.out.size ?_)
   intro v' w' hW2 hb5;have hW2:=lhd hW2;have hb5:=lhd (hb4.out.trans hb5)
   go_wp2_with fail
   go_roundw
   case rel=>exact⟨k+1,by omega,by go_num,by rw[hst.out];exact hW2.out,hb5⟩
   case measure=>simp[intOf];omega
  have i0:¬32 * (k:Int)+32<=(l.length:Int):=by omega
  have hall:Hid ((cutL 32 N l).take k=cutL 32 N l):=xtl (by rw[cutL_len];omega);rw[hall.out] at ho;clear hl'
  go_wp2_with fail
  go_returns
  exact⟨_,rfl,ho.out,hb.out⟩
theorem SeesB.over {w w':World} {B g:Nat} {T:TypeId} {u:Value} {l:Bs} {xs:List Value} (h:SeesB w B u l) (hB:B<=w.heap.size) (hbx:Box w g T xs) (hno:NoByte xs) (hg:w.grownBy w' (some g)):SeesB w' B u l:=
 h.stay fun hl k hk p hp=>World.cell?_of_block (hg.block p.block (by rw[hp];exact Nat.lt_of_lt_of_le (h.blk hl k hk) hB) (fun e=>h.notin hbx hno hl (by rw[hk,<-hp,e])))
theorem below_over {w w':World} {B g:Nat} (hg:w.grownBy w' (some g)) (hB:B<=g) (hs:B<=w.heap.size):Below B w w':=
 ⟨hg.os,hg.tape,hg.output,hg.size,fun k hk=>hg.block k (by omega) (fun e=>by injection e with e;omega)⟩
def datN (b:Bs) (k:Nat):Bs:=((decT b).getD k ([],[])).2
def contOk (b:Bs):Bool:=decide ((decT b).map (·.1)=names2)&&decide ((datN b 0).length=32)&&unOk (datN b 1)
def AnsAt (w:World) (g:Nat) (i n:Int) (pa si pt ro:Value) (lo hi:Int):Prop:=Box w g 126 [.int .i64 i,.int .i64 n,pa,si,pt,ro,.int .i64 lo,.int .i64 hi]
def ContP (b:Bs) (g:Nat) (i n:Int) (pa si pt:Value) (w:World) (e:Ending) (w':World):Prop:=
 e=.returned (.bool (contOk b))/\w.grownBy w' (some g)/\(contOk b=true->∃r,AnsAt w' g i n pa si pt r (unLo (datN b 1)) (unHi (datN b 1))/\SeesB w' w'.heap.size r (datN b 0))
theorem grown_of (w w':World) (g:Nat) (h:Below w.heap.size w w'):w.grownBy w' (some g):=⟨h.os,h.tape,h.output,h.size,fun k hk _=>h.block k hk⟩
theorem decT_len (b:Bs):(decT b).length<=16:=by
 unfold decT
 split
 ·rename_i h
  by_cases h0:2048<b.length
  ·rw[dec_long b h0] at h;omega
  by_cases h1:b.length<4
  ·rw[dec_short b h0 h1] at h;omega
  by_cases h2:placeN b 0<1\/16<placeN b 0
  ·rw[dec_limit b h0 h1 h2] at h;omega
  simp[tagsN];omega
 simp
theorem noBL8 {a b c d e f g h:Value} (ha:NoB a) (hb:NoB b) (hc:NoB c) (hd:NoB d) (he:NoB e) (hf:NoB f) (hg:NoB g) (hh:NoB h):NoByte [a,b,c,d,e,f,g,h]:=by
 intro x hx n e;simp only[List.mem_cons,List.not_mem_nil,or_false] at hx;rcases hx with rfl|rfl|rfl|rfl|rfl|rfl|rfl|rfl
 ·exact ha n e
 ·exact hb n e
 ·exact hc n e
 ·exact hd n e
 ·exact he n e
 ·exact hf n e
 ·exact hg n e
 exact hh n e
theorem datN_len (b:Bs) (k:Nat):(datN b k).length<=b.length:=by
 unfold datN decT
 split
 ·rw[xgd]
  by_cases hk:k<placeN b 0
  ·rw[tagsN_get b _ k hk]
   simp[tagN]
   omega
  rw[List.getElem?_eq_none (by simp[tagsN];omega)];simp
 simp
theorem content_any (b:Bs) (g:Nat) (i n:Int) (pa si pt ro:Value) (lo hi:Int) (w:World) (hx:AnsAt w g i n pa si pt ro lo hi) (hu:SeesB w w.heap.size pt b) (hl:b.length<=1048576) (hpa:NoB pa) (hsi:NoB si) (hro:NoB ro)
 (h1:pa.oneCell'=true) (h2:si.oneCell'=true) (h3:ro.oneCell'=true) :
 Calls prog 151 #[.pointer (some ⟨g,0,none⟩)] w (ContP b g i n pa si pt w):=by
 obtain⟨A,c,rfl,-,-⟩:=hu.mk_;have hdec:=decode_any _ _ b w hu nlr hl;unfold DecP at hdec;generalize decC b=dc at hdec;unfold AnsAt at hx;unfold ContP AnsAt;have x4:=hx.cell 4;simp only[xqz,xqs] at x4;have hcd:contOk b=(decide ((decT b).map (·.1)=names2)&&decide ((datN b 0).length=32)&&unOk (datN b 1)):=rfl;have hd0:datN b 0=((decT b).map (·.2)).getD 0 []:=by unfold datN;cases decT b with | nil=>rfl | cons x y=>rfl
 have hd1:datN b 1=((decT b).map (·.2)).getD 1 []:=by unfold datN;cases decT b with | nil=>rfl | cons x y=>cases y<;>rfl
 have hdl0:=datN_len b 0;have hdl1:=datN_len b 1;have hex:=fun W v (h:SeesR W W.heap.size v 2 (decT b).length (tagS (decT b)))=>
  parts2_any W.heap.size _ v _ (decT b) names2 (W.alloc (.cells #[.string ⟨#[82,79,79,84]⟩,.string ⟨#[83,80,65,78]⟩] 9)) (h.below (balloc W _)) (names2_lit W) (balloc W _).size (by rw[xsa];exact Nat.le_refl _) (Nat.le_trans (decT_len b) (by omega))
 generalize datN b 0=d0 at *;generalize datN b 1=d1 at *;replace hcd:=lhd hcd;replace hd0:=lhd hd0;replace hd1:=lhd hd1;replace hex:=lhd hex;generalize decT b=ts at *;replace hdec:=lhd hdec
 go_enter func151,ntmps151
 go_wp2_with fail
 refine hdec.out.mono ?_;rintro e w1 ⟨v1,rfl,s1,hb1⟩;dsimp only
 go_wp2_with fail
 refine (hex.out w1 v1 s1).mono ?_;rintro e w3 hP;have hbA:=bgo hb1 (balloc w1 (.cells #[.string ⟨#[82,79,79,84]⟩,.string ⟨#[83,80,65,78]⟩] 9));clear hex hdec s1;rcases hP with ⟨hnm,v3,rfl,ho,hb3⟩|⟨hnm,rfl,hb3⟩
 ·have hgw:=hx.lt
  have hown:=(ho.mono hbA.size).lt;replace hbA:=bgo hbA hb3;have hL2:(ts.map (·.2)).length=2:=by
   have:=congrArg List.length hnm
   simpa [names2] using this
  have hsl:=ho.sees;obtain⟨A3,c3,rfl,-,-⟩:=hsl.mk_;obtain⟨b6,o6,rfl,hb6,hcell⟩:=hsl.at_ (by omega);obtain⟨Aa,ca,y0,-,-,sd0⟩:=hcell 0 (by omega);obtain⟨Ab,cb,y1,-,-,sd1⟩:=hcell 1 (by omega);rw[<-hd0.out] at y0 sd0;rw[<-hd1.out] at y1 sd1;replace y0:w3.cell? ⟨b6,o6,none⟩=some (.slice Aa d0.length ca):=y0;have hb6g:b6≠g:=by have:=(hown b6 rfl).1;omega
  replace hx:=hx.below hbA;clear hcell hsl ho hown;rw[hL2]
  by_cases m0:d0.length=32
  ·have i0:(d0.length:Int)=32:=by omega
   have hno:=noBL8 (NoB.i i) (NoB.i n) hpa hsi (NoB.s A b.length c) hro (NoB.i lo) (NoB.i hi);have k0:=sd0.poke (j:=5) (v':=.slice Aa d0.length ca) hx hno;have k1:=sd1.poke (j:=5) (v':=.slice Aa d0.length ca) hx hno;have x5:=hx.cell 5;have f5:=hx.frozen 5;simp only[xqz,xqs] at x5;have z1:(w3.setCell ⟨g,5,none⟩ (.slice Aa d0.length ca)).cell? ⟨b6,o6+1,none⟩=some (.slice Ab d1.length cb):=(World.cell?_setCell_other _ _ _ _ (fun e=>hb6g (by injection e with e;exact e.symm))).trans y1;have hx6:=hx.set 5 (.slice Aa d0.length ca);simp only[xsz,xss] at hx6;have hg5:=setCell_grown w3 g 5 (.slice Aa d0.length ca);have hs5:(w3.setCell ⟨g,5,none⟩ (.slice Aa d0.length ca)).heap.size=w3.heap.size:=by simp[World.setCell]
   have hun:=unspan_any _ _ d1 _ k1 (by rw[hs5];exact Nat.le_refl _);unfold UnPost at hun;have hg1:=gbelow (g:=g) hbA;replace hx:=lhd hx;replace hg1:=lhd (ggo hg1 hg5);replace hun:=lhd hun;replace m0:=lhd m0;clear sd0 sd1 hg5 hbA hb1 hb3 hu
   go_wp2_with fail
   refine hun.out.mono ?_;rintro e w4 ⟨rfl,hb4⟩;have hx7:=hx6.below hb4;have x6:=hx7.cell 6;have x7:=hx7.cell 7;have f6:=hx7.frozen 6;have f7:=hx7.frozen 7;simp only[xqz,xqs] at x6 x7;have hg4:=ggo hg1.out (gbelow (g:=g) hb4);have k4:=(k0.more (by rw[hs5];exact Nat.le_refl _)).below hb4;dsimp only;cases hok:unOk d1 with
   | true=>
     have hc:Hid (contOk b=true):=by show _=_;rw[hcd.out];simp[hnm,m0.out,hok]
     have e1:unA d1=unLo d1:=by simp[unA,hok]
     have e2:unB d1=unHi d1:=by simp[unB,hok]
     have e3:unC d1=0:=by simp[unC,hok]
     rw[e1,e2,e3];generalize hl1:unLo d1=l1 at *;generalize hl2:unHi d1=l2 at *;replace hl1:=lhd hl1;replace hl2:=lhd hl2;have hw6:∀x y:Value,w4.heap.size<=((w4.setCell ⟨g,6,none⟩ x).setCell ⟨g,7,none⟩ y).heap.size:=fun x y=>by simp[World.setCell]
     replace hok:=lhd hok;replace hnm:=lhd hnm;have hx8:=hx7.set 6 (.int .i64 l1);have hx9:=hx8.set 7 (.int .i64 l2);simp only[xsz,xss] at hx8 hx9;have hno4:=noBL8 (NoB.i i) (NoB.i n) hpa hsi (NoB.s A b.length c) (NoB.s Aa d0.length ca) (NoB.i lo) (NoB.i hi);have hno5:=noBL8 (NoB.i i) (NoB.i n) hpa hsi (NoB.s A b.length c) (NoB.s Aa d0.length ca) (NoB.i l1) (NoB.i hi);have k5:=(k4.poke (j:=6) (v':=.int .i64 l1) hx7 hno4).poke (j:=7) (v':=.int .i64 l2) hx8 hno5;have hg9:=ggo (ggo hg4 (setCell_grown w4 g 6 (.int .i64 l1))) (setCell_grown _ g 7 (.int .i64 l2));replace hx9:=lhd hx9;replace k5:=lhd k5;replace hg9:=lhd hg9;clear hx8 hx6 k4 k0 k1 hg4
     go_wp2_with fail
     go_ret
     exact⟨by rw[hc.out];rfl,hg9.out,fun _=>⟨.slice Aa d0.length ca,by rw[hl1.out,hl2.out];exact hx9.out,k5.out.more (Nat.le_trans hb4.size (hw6 _ _))⟩⟩
   | false=>
     have hc:Hid (contOk b=false):=by show _=_;rw[hcd.out];simp[hnm,m0.out,hok]
     have e1:unA d1=0:=by simp[unA,hok]
     have e2:unB d1=0:=by simp[unB,hok]
     have e3:unC d1=3:=by simp[unC,hok]
     rw[e1,e2,e3];replace hok:=lhd hok;replace hnm:=lhd hnm;have hg9:=lhd (ggo (ggo hg4 (setCell_grown w4 g 6 (.int .i64 0))) (setCell_grown _ g 7 (.int .i64 0)));clear hg4
     go_wp2_with fail
     go_ret
     exact⟨by rw[hc.out];rfl,hg9.out,fun h=>by rw[hc.out] at h;exact absurd h (by simp)⟩
  have i0:¬(d0.length:Int)=32:=by omega
  have hc:Hid (contOk b=false):=by show _=_;rw[hcd.out];simp[m0]
  replace m0:=lhd m0
  go_wp2_with fail
  go_ret
  exact⟨by rw[hc.out];rfl,grown_of _ _ _ hbA,fun h=>by rw[hc.out] at h;exact absurd h (by simp)⟩
 have hc:Hid (contOk b=false):=by show _=_;rw[hcd.out];simp[hnm]
 go_wp2_with fail
 go_ret
 exact⟨by rw[hc.out];rfl,grown_of _ _ _ (bgo hbA hb3),fun h=>by rw[hc.out] at h;exact absurd h (by simp)⟩
theorem box_set8 {W:World} {g:Nat} {T:TypeId} {a0 a1 a2 a3 a4 a5 a6 a7:Value} (h:Box W g T [a0,a1,a2,a3,a4,a5,a6,a7]) (x0 x1 x2 x3 x4 x5 x6 x7:Value):Box ((((((((W.setCell ⟨g,0,none⟩ x0).setCell ⟨g,1,none⟩ x1).setCell ⟨g,2,none⟩ x2).setCell ⟨g,3,none⟩ x3).setCell ⟨g,4,none⟩ x4).setCell ⟨g,5,none⟩ x5).setCell ⟨g,6,none⟩ x6).setCell ⟨g,7,none⟩ x7) g T [x0,x1,x2,x3,x4,x5,x6,x7]:=by
 have y:=(((((((h.set 0 x0).set 1 x1).set 2 x2).set 3 x3).set 4 x4).set 5 x5).set 6 x6).set 7 x7
 simpa only [xsz,xss] using y
theorem below_set8 {w W:World} {g:Nat} (h:Below w.heap.size w W) (hg:w.heap.size<=g) (x0 x1 x2 x3 x4 x5 x6 x7:Value):Below w.heap.size w ((((((((W.setCell ⟨g,0,none⟩ x0).setCell ⟨g,1,none⟩ x1).setCell ⟨g,2,none⟩ x2).setCell ⟨g,3,none⟩ x3).setCell ⟨g,4,none⟩ x4).setCell ⟨g,5,none⟩ x5).setCell ⟨g,6,none⟩ x6).setCell ⟨g,7,none⟩ x7):=
 ((((((((h.setCell (p:=⟨g,0,none⟩) hg _).setCell (p:=⟨g,1,none⟩) hg _).setCell (p:=⟨g,2,none⟩) hg _).setCell (p:=⟨g,3,none⟩) hg _).setCell (p:=⟨g,4,none⟩) hg _).setCell (p:=⟨g,5,none⟩) hg _).setCell (p:=⟨g,6,none⟩) hg _).setCell (p:=⟨g,7,none⟩) hg _)
theorem SeesB.poke8 {W:World} {B g:Nat} {T:TypeId} {u a0 a1 a2 a3 a4 a5 a6 a7:Value} {l:Bs} (h:SeesB W B u l) (hx:Box W g T [a0,a1,a2,a3,a4,a5,a6,a7]) (p0:NoB a0) (p1:NoB a1) (p2:NoB a2) (p3:NoB a3) (p4:NoB a4) (p5:NoB a5) (p6:NoB a6) (p7:NoB a7) (x0 x1 x2 x3 x4 x5 x6 x7:Value) (q0:NoB x0) (q1:NoB x1) (q2:NoB x2) (q3:NoB x3) (q4:NoB x4) (q5:NoB x5) (q6:NoB x6) :
 SeesB ((((((((W.setCell ⟨g,0,none⟩ x0).setCell ⟨g,1,none⟩ x1).setCell ⟨g,2,none⟩ x2).setCell ⟨g,3,none⟩ x3).setCell ⟨g,4,none⟩ x4).setCell ⟨g,5,none⟩ x5).setCell ⟨g,6,none⟩ x6).setCell ⟨g,7,none⟩ x7) B u l:=by
 have k0:=h.poke (j:=0) (v':=x0) hx (noBL8 p0 p1 p2 p3 p4 p5 p6 p7);have y0:=hx.set 0 x0;simp only[xsz] at y0;have k1:=k0.poke (j:=1) (v':=x1) y0 (noBL8 q0 p1 p2 p3 p4 p5 p6 p7);have y1:=y0.set 1 x1;simp only[xsz,xss] at y1;have k2:=k1.poke (j:=2) (v':=x2) y1 (noBL8 q0 q1 p2 p3 p4 p5 p6 p7);have y2:=y1.set 2 x2;simp only[xsz,xss] at y2;have k3:=k2.poke (j:=3) (v':=x3) y2 (noBL8 q0 q1 q2 p3 p4 p5 p6 p7);have y3:=y2.set 3 x3;simp only[xsz,xss] at y3;have k4:=k3.poke (j:=4) (v':=x4) y3 (noBL8 q0 q1 q2 q3 p4 p5 p6 p7);have y4:=y3.set 4 x4;simp only[xsz,xss] at y4;have k5:=k4.poke (j:=5) (v':=x5) y4 (noBL8 q0 q1 q2 q3 q4 p5 p6 p7);have y5:=y4.set 5 x5;simp only[xsz,xss] at y5;have k6:=k5.poke (j:=6) (v':=x6) y5 (noBL8 q0 q1 q2 q3 q4 q5 p6 p7);have y6:=y5.set 6 x6;simp only[xsz,xss] at y6;have k7:=k6.poke (j:=7) (v':=x7) y6 (noBL8 q0 q1 q2 q3 q4 q5 q6 p7);exact k7
theorem OwnL.poke8 {W:World} {base g:Nat} {T:TypeId} {u a0 a1 a2 a3 a4 a5 a6 a7:Value} {l:List Bs} (h:OwnL W base u l) (hG:g<base) (hx:Box W g T [a0,a1,a2,a3,a4,a5,a6,a7]) (p0:NoB a0) (p1:NoB a1) (p2:NoB a2) (p3:NoB a3) (p4:NoB a4) (p5:NoB a5) (p6:NoB a6) (p7:NoB a7) (x0 x1 x2 x3 x4 x5 x6 x7:Value) (q0:NoB x0) (q1:NoB x1) (q2:NoB x2) (q3:NoB x3) (q4:NoB x4) (q5:NoB x5) (q6:NoB x6) :
 OwnL ((((((((W.setCell ⟨g,0,none⟩ x0).setCell ⟨g,1,none⟩ x1).setCell ⟨g,2,none⟩ x2).setCell ⟨g,3,none⟩ x3).setCell ⟨g,4,none⟩ x4).setCell ⟨g,5,none⟩ x5).setCell ⟨g,6,none⟩ x6).setCell ⟨g,7,none⟩ x7) base u l:=by
 have k0:=h.poke (j:=0) (v':=x0) hG hx (noBL8 p0 p1 p2 p3 p4 p5 p6 p7);have y0:=hx.set 0 x0;simp only[xsz] at y0;have k1:=k0.poke (j:=1) (v':=x1) hG y0 (noBL8 q0 p1 p2 p3 p4 p5 p6 p7);have y1:=y0.set 1 x1;simp only[xsz,xss] at y1;have k2:=k1.poke (j:=2) (v':=x2) hG y1 (noBL8 q0 q1 p2 p3 p4 p5 p6 p7);have y2:=y1.set 2 x2;simp only[xsz,xss] at y2;have k3:=k2.poke (j:=3) (v':=x3) hG y2 (noBL8 q0 q1 q2 p3 p4 p5 p6 p7);have y3:=y2.set 3 x3;simp only[xsz,xss] at y3;have k4:=k3.poke (j:=4) (v':=x4) hG y3 (noBL8 q0 q1 q2 q3 p4 p5 p6 p7);have y4:=y3.set 4 x4;simp only[xsz,xss] at y4;have k5:=k4.poke (j:=5) (v':=x5) hG y4 (noBL8 q0 q1 q2 q3 q4 p5 p6 p7);have y5:=y4.set 5 x5;simp only[xsz,xss] at y5;have k6:=k5.poke (j:=6) (v':=x6) hG y5 (noBL8 q0 q1 q2 q3 q4 q5 p6 p7);have y6:=y5.set 6 x6;simp only[xsz,xss] at y6;have k7:=k6.poke (j:=7) (v':=x7) hG y6 (noBL8 q0 q1 q2 q3 q4 q5 q6 p7);exact k7
theorem size_set8 (W:World) (g:Nat) (x0 x1 x2 x3 x4 x5 x6 x7:Value):((((((((W.setCell ⟨g,0,none⟩ x0).setCell ⟨g,1,none⟩ x1).setCell ⟨g,2,none⟩ x2).setCell ⟨g,3,none⟩ x3).setCell ⟨g,4,none⟩ x4).setCell ⟨g,5,none⟩ x5).setCell ⟨g,6,none⟩ x6).setCell ⟨g,7,none⟩ x7).heap.size=W.heap.size:=by simp[World.setCell]
def nKEYS:Bs:=[75,69,89,83]
def nANSW:Bs:=[65,78,83,87]
def nCERT:Bs:=[67,69,82,84]
def names3:List Bs:=[nKEYS,nSIGN,nSPAN]
def namesA:List Bs:=[nANSW,nCERT]
def fitsG (s:Bs):Bool:=decide (0<s.length)&&(decide (headN s<=6)&&decide (s.length=sizeN s))
def dtags (p:Bs) (f t:Int) (s:Bs):List (Bs × Bs):=[(nKEYS,p),(nSIGN,pad4 s),(nSPAN,spanB f t)]
def dencC (p:Bs) (f t:Int) (s:Bs):Int:=if p.length=32 then (if vS f t&&fitsG s then 0 else 3) else 5
def dencB (p:Bs) (f t:Int) (s:Bs):Bs:=if dencC p f t s=0 then bodyT (dtags p f t s) else []
def delOk (b:Bs):Bool:=decide ((decT b).map (·.1)=names3)&&decide ((datN b 0).length=32)&&(unpadG (datN b 1)).isSome&&unOk (datN b 2)
def delC (b:Bs):Int:=if decC b=0 then (if delOk b=true then 0 else 3) else decC b
theorem spanB_len (f t:Int):(spanB f t).length=16:=by simp[spanB,putB_len]
theorem head_pad (s:Bs) (h:0<s.length):headN (pad4 s)=headN s:=by
 cases s with
 | nil=>simp at h
 | cons x r=>simp[headN,pad4]
theorem size_pad (s:Bs) (h:0<s.length):sizeN (pad4 s)=sizeN s:=by unfold sizeN;rw[head_pad s h]
theorem fits_unpad (s:Bs) (h:fitsG s=true):unpadG (pad4 s)=some s:=by
 unfold fitsG at h;simp only[Bool.and_eq_true,decide_eq_true_eq] at h;obtain⟨h0,h1,h2⟩:=h;have h3:=pad4_len s;unfold unpadG;rw[head_pad s h0,size_pad s h0,if_neg (by omega)];have h4:(pad4 s).take (sizeN s)=s:=by rw[<-h2,pad4,List.take_left]
 rw[h4,if_pos rfl]
theorem unpad_spec {b s:Bs} (h:unpadG b=some s):fitsG s=true/\pad4 s=b:=by
 unfold unpadG at h
 split at h
 ·cases h
 rename_i g
 split at h
 ·rename_i g2
  injection h with h;subst h;refine⟨?_,g2⟩;unfold fitsG;have hl:(b.take (sizeN b)).length=sizeN b:=by rw[xlt];omega
  have hp:0<(b.take (sizeN b)).length:=by rw[hl];unfold sizeN;omega
  have h1:headN (b.take (sizeN b))=headN b:=by
   rw[<-head_pad _ hp,g2]
  have h2:sizeN (b.take (sizeN b))=sizeN b:=by unfold sizeN at *;rw[h1]
  simp only[Bool.and_eq_true,decide_eq_true_eq];rw[h1,h2,hl];rw[hl] at hp;exact⟨hp,by omega,rfl⟩
 cases h
theorem fits_iff (s:Bs):fitsG s=(decide (0<s.length)&&((unpadG (pad4 s)).isSome&&decide (s.length=sizeN s))):=by
 by_cases h0:0<s.length
 ·by_cases h1:s.length=sizeN s
  ·by_cases h2:headN s<=6
   ·have h:fitsG s=true:=by unfold fitsG;rw[decide_eq_true h0,decide_eq_true h2,decide_eq_true h1];rfl
    rw[h,fits_unpad s h];simp[h0,<-h1]
   have h:fitsG s=false:=by unfold fitsG;simp[h2]
   have h3:unpadG (pad4 s)=none:=unpad_no _ (Or.inr (Or.inl (by rw[head_pad s h0];omega)));rw[h,h3];simp
  have h:fitsG s=false:=by unfold fitsG;simp[h1]
  rw[h];simp[h1]
 have h:fitsG s=false:=by unfold fitsG;simp[h0]
 rw[h];simp[h0]
theorem head_le (s:Bs) (h:fitsG s=true):s.length<=757:=by
 unfold fitsG sizeN at h;simp only[Bool.and_eq_true,decide_eq_true_eq] at h
 omega
theorem dtags_ok (p:Bs) (f t:Int) (s:Bs) (hp:p.length=32) (hs:fitsG s=true):encC (dtags p f t s)=0:=by
 have h1:=pad4_len s;have h2:=head_le s hs;have hc:checkT [] (dtags p f t s)=0:=by
  have e1:namedG nKEYS=true:=by decide
  have e2:namedG nSIGN=true:=by decide
  have e3:namedG nSPAN=true:=by decide
  have o1:(Op.bytesLess nKEYS [] || nKEYS == [])=false:=by decide
  have o2:(Op.bytesLess nSIGN nKEYS || nSIGN == nKEYS)=false:=by decide
  have o3:(Op.bytesLess nSPAN nSIGN || nSPAN == nSIGN)=false:=by decide
  have d1:p.length % 4=0:=by omega
  have d2:(pad4 s).length % 4=0:=by omega
  have d3:(spanB f t).length % 4=0:=by rw[spanB_len]
  simp only[dtags,checkT,e1,e2,e3,o1,o2,o3,d1,d2,d3,if_true,Bool.false_eq_true,if_false]
 have hl:(bodyT (dtags p f t s)).length<=2048:=by
  rw[bodyT_len _ (fun x hx=>(checkT_ok _ _ hc x hx).1) (by simp[dtags])]
  have:(dataT (dtags p f t s)).length=32+(pad4 s).length+16:=by
   simp only[dtags,dataT,xmp,List.map_nil,xfc,List.flatten_nil,xla,List.length_nil,spanB_len,hp]
   omega
  rw[this];simp only[dtags,xlc,List.length_nil]
  omega
 unfold encC;rw[if_neg (by simp[dtags]),if_pos hc,if_neg (by omega)]
theorem dtags_enc (p:Bs) (f t:Int) (s:Bs) (h:dencC p f t s=0):encC (dtags p f t s)=0/\encT (dtags p f t s)=dencB p f t s:=by
 have h0:=h;unfold dencC at h
 split at h
 ·rename_i hp
  split at h
  ·rename_i hv
   simp only[Bool.and_eq_true] at hv;have he:=dtags_ok p f t s hp hv.2;exact⟨he,by rw[encT,if_pos he,dencB,if_pos h0]⟩
  omega
 omega
theorem tags_three (b:Bs) (h:(decT b).map (·.1)=names3):decT b=[(nKEYS,datN b 0),(nSIGN,datN b 1),(nSPAN,datN b 2)]:=by
 unfold datN;generalize decT b=l at h ⊢;obtain⟨x,l,rfl⟩:∃x r,l=x :: r:=by cases l with|nil=>simp[names3] at h|cons x r=>exact⟨x,r,rfl⟩
 obtain⟨y,l,rfl⟩:∃x r,l=x :: r:=by cases l with|nil=>simp[names3] at h|cons x r=>exact⟨x,r,rfl⟩
 obtain⟨z,l,rfl⟩:∃x r,l=x :: r:=by cases l with|nil=>simp[names3] at h|cons x r=>exact⟨x,r,rfl⟩
 obtain⟨x1,x2⟩:=x;obtain⟨y1,y2⟩:=y;obtain⟨z1,z2⟩:=z;simp only[names3,xmp,List.cons.injEq,List.map_eq_nil_iff] at h;obtain⟨rfl,rfl,rfl,rfl⟩:=h
 rfl
theorem del_back (b s:Bs) (hd:decC b=0) (hn:(decT b).map (·.1)=names3) (hs:unpadG (datN b 1)=some s) (hu:unOk (datN b 2)=true) (hl:(datN b 0).length=32) :
 dencC (datN b 0) (unLo (datN b 2)) (unHi (datN b 2)) s=0/\dencB (datN b 0) (unLo (datN b 2)) (unHi (datN b 2)) s=b:=by
 obtain⟨f1,f2⟩:=unpad_spec hs;obtain⟨s1,s2⟩:=span_back _ hu;have hc:dencC (datN b 0) (unLo (datN b 2)) (unHi (datN b 2)) s=0:=by
  unfold dencC;rw[if_pos hl,s1,f1]
  rfl
 refine⟨hc,?_⟩;obtain⟨e1,e2⟩:=enc_back b hd;rw[dencB,if_pos hc,dtags,f2,s2,<-tags_three b hn];rw[encT,if_pos e1] at e2;exact e2
def CutP (b:Bs) (w:World) (e:Ending) (w':World):Prop:=
 ∃A n c s,e=.returned (.tuple #[.slice A n c,.bool (unpadG b).isSome])/\SeesB w' w'.heap.size (.slice A n c) s/\s.length<=4096/\(∀x,unpadG b=some x->s=x)/\Below w.heap.size w w'
theorem cutp_nil {b:Bs} (h:unpadG b=none) {w w':World} {e:Ending} (he:e=.returned (.tuple #[.slice none 0 0,.bool false])) (hb:Below w.heap.size w w'):CutP b w e w':=
 ⟨none,0,0,[],by rw[h];exact he,SeesB.nil _ _,by simp,fun x hx=>(by rw[h] at hx;cases hx),hb⟩
theorem cutp_no {b s:Bs} {A:Option Addr} {n c:Nat} (h:unpadG b=none) {w w':World} {e:Ending} (he:e=.returned (.tuple #[.slice A n c,.bool false])) (hs:SeesB w' w'.heap.size (.slice A n c) s) (hl:s.length<=4096) (hb:Below w.heap.size w w'):CutP b w e w':=
 ⟨A,n,c,s,by rw[h];exact he,hs,hl,fun x hx=>(by rw[h] at hx;cases hx),hb⟩
theorem cutp_ok {b s:Bs} {A:Option Addr} {n c:Nat} (h:unpadG b=some s) {w w':World} {e:Ending} (he:e=.returned (.tuple #[.slice A n c,.bool true])) (hs:SeesB w' w'.heap.size (.slice A n c) s) (hb:Below w.heap.size w w'):CutP b w e w':=
 ⟨A,n,c,s,by rw[h];exact he,hs,by have:=(unpad_spec h).1;have:=head_le s this;omega,fun x hx=>(by rw[h] at hx;cases hx;rfl),hb⟩
theorem cut2_any (B:Nat) (u:Value) (b:Bs) (w:World) (hu:SeesB w B u b) (hB:B<=w.heap.size) (hl:b.length<=4096) :
 Calls prog 150 #[u] w (CutP b w):=by
 obtain⟨A,c,rfl,hc1,hc2⟩:=hu.mk_
 by_cases g0:b.length=0
 ·have hno:=lhd (unpad_no b (.inl g0))
  have i0:(b.length:Int)=0:=by omega
  go_enter func150,ntmps150
  go_wp2_with fail
  go_returns
  exact cutp_nil hno.out rfl (Below.refl _ _)
 have hh:headN b<=255:=by have:=(b.getD 0 0).toNat_lt;unfold headN;omega
 obtain⟨g,o,rfl,hgB,hcell⟩:=hu.at_ (by omega);have x0:w.cell? ⟨g,o,none⟩=some (.int .u8 (headN b:Int)):=hcell 0 (by omega);have i0:¬(b.length:Int)=0:=by omega
 have i9:(0:Int)<(b.length:Int):=by omega
 by_cases g1:6<headN b
 ·have hno:=lhd (unpad_no b (.inr (.inl g1)))
  have i1:(6:Int)<(headN b:Int):=by omega
  generalize headN b=h at *
  go_enter func150,ntmps150
  go_wp2_with fail
  go_returns
  exact cutp_nil hno.out rfl (Below.refl _ _)
 have i1:¬(6:Int)<(headN b:Int):=by omega
 have iw:IntKind.i64.wrap (headN b:Int)=(headN b:Int):=by rw[xwi];omega
 have hlen:=fun W=>tlength_any (headN b) W hh
 have hsn:565+32 * headN b=sizeN b:=rfl;rw[hsn] at hlen
 by_cases g2:b.length<sizeN b
 ·have hno:=lhd (unpad_no b (.inr (.inr g2)))
  have i2:(b.length:Int)<(sizeN b:Int):=by omega
  generalize headN b=h at *;generalize sizeN b=z at *;replace hlen:=lhd hlen
  go_enter func150,ntmps150
  go_wp2_with fail
  refine (hlen.out _).mono ?_;rintro e w0 ⟨rfl,rfl⟩;dsimp only
  go_wp2_with fail
  go_returns
  exact cutp_nil hno.out rfl (Below.refl _ _)
 have i2:¬(b.length:Int)<(sizeN b:Int):=by omega
 have hug:unpadG b=if pad4 (b.take (sizeN b))=b then some (b.take (sizeN b)) else none:=by unfold unpadG;rw[if_neg (by omega)]
 have hs:=hu.take (m:=sizeN b) (c':=c) (by omega) (by omega) hc2;have hl2:(b.take (sizeN b)).length=sizeN b:=by rw[xlt];omega
 have i3:(sizeN b:Int)<=(c:Int):=by omega
 have hcl:=lhd (fun W (hW:Below w.heap.size w W)=>bclone_any B _ (b.take (sizeN b)) W (hs.below (hW.mono hB)) (Nat.le_trans hB hW.size) (by omega));have hpd:=lhd (fun W (hW:Below w.heap.size w W)=>padded_any B _ (b.take (sizeN b)) W (hs.below (hW.mono hB)) (Nat.le_trans hB hW.size) (by omega));have heq:=lhd (fun W v (hW:Below w.heap.size w W) (hv:SeesB W W.heap.size v (pad4 (b.take (sizeN b))))=>equal_any _ _ v _ (pad4 (b.take (sizeN b))) b W hv (hu.below (hW.mono hB)));clear hs hu;generalize b.take (sizeN b)=s at *;generalize headN b=h at *;generalize sizeN b=z at *;have iz:(0:Int)<=(z:Int):=by omega
 replace hlen:=lhd hlen;replace hl2:=lhd hl2;replace hug:=lhd hug
 go_enter func150,ntmps150
 go_wp2_with fail
 refine (hlen.out _).mono ?_;rintro e w0 ⟨rfl,hw0⟩;obtain rfl:=hw0.symm;dsimp only
 go_wp2_with fail
 refine (hlen.out _).mono ?_;rintro e w0 ⟨rfl,hw0⟩;obtain rfl:=hw0.symm;dsimp only
 go_wp2_with fail
 refine (hcl.out _ (Below.refl _ _)).mono ?_;rintro e w1 ⟨v1,rfl,h1,hb1⟩;obtain⟨A1,c1,rfl,-,-⟩:=h1.sees.mk_;dsimp only
 go_wp2_with fail
 refine (hpd.out _ hb1).mono ?_;rintro e w2 ⟨v2,rfl,h2,hb2⟩;have hb3:=bgo hb1 hb2;have hq:=lhd (heq.out w2 v2 hb3 h2.sees);have h3:=(h1.below hb2).sees;replace h1:=lhd h1;replace h2:=lhd h2;dsimp only
 go_wp2_with fail
 refine hq.out.mono ?_;rintro e w0 ⟨rfl,hw0⟩;obtain rfl:=hw0.symm;dsimp only
 by_cases g3:pad4 s=b
 ·have hu9:Hid (unpadG b=some s):=by show _=_;rw[hug.out,if_pos g3]
  have hq9:(pad4 s == b)=true:=by simp[g3]
  generalize (pad4 s == b)=Q at *;subst hq9;replace g3:=lhd g3
  go_wp2_with fail
  go_returns
  exact cutp_ok hu9.out rfl h3 hb3
 have hu9:Hid (unpadG b=none):=by show _=_;rw[hug.out,if_neg g3]
 have hq9:(pad4 s == b)=false:=by simp[g3]
 generalize (pad4 s == b)=Q at *;subst hq9;replace g3:=lhd g3
 go_wp2_with fail
 go_returns
 exact cutp_no hu9.out rfl h3 (by have:=hl2.out;omega) hb3
theorem drop_pre {α:Type} (a b:List α) (n:Nat) (h:a.length=n):(a++b).drop n=b:=by
 rw[<-h,List.drop_left]
theorem take_pre {α:Type} (a b:List α) (n:Nat) (h:a.length=n):(a++b).take n=a:=by
 rw[<-h,List.take_left]
section
variable (ts:List (Bs × Bs)) (h4:∀t∈ts,t.1.length=4/\t.2.length % 4=0) (hn:1<=ts.length) (hl:(bodyT ts).length<=2048)
include h4 hn
theorem body_len:(bodyT ts).length=8 * ts.length+(dataT ts).length:=bodyT_len ts (fun t ht=>(h4 t ht).1) hn
theorem body_first:(bodyT ts).take 4=putB 4 ts.length:=by
 rw[bodyT,xaa,xaa,take_pre _ _ 4 (putB_len _ _)]
theorem body_after:(bodyT ts).drop 4=placesT ts (ts.length - 1)++(namesT ts++dataT ts):=by
 rw[bodyT,xaa,xaa,drop_pre _ _ 4 (putB_len _ _)]
theorem body_names:(bodyT ts).drop (4 * ts.length)=namesT ts++dataT ts:=by
 rw[bodyT,xaa,xaa,<-xaa (putB 4 ts.length)];exact drop_pre _ _ _ (by rw[xla,putB_len,placesT_len];omega)
theorem body_data:(bodyT ts).drop (8 * ts.length)=dataT ts:=by
 have hN:=namesT_len ts (fun t ht=>(h4 t ht).1);rw[show 8 * ts.length=4 * ts.length+4 * ts.length by omega,<-List.drop_drop,body_names ts h4 hn];exact drop_pre _ _ _ hN
theorem dataT_pre (k:Nat):(dataT (ts.take k)).length<=(dataT ts).length/\(dataT (ts.take k)).length % 4=0:=by
 induction k with
 | zero=>simp[dataT]
 | succ k ih=>
   by_cases hk:k<ts.length
   ·have hg:ts[k]?=some ts[k]:=xge hk
    rw[dataT_step ts k _ hg,xla];have hm:=(h4 ts[k] (xgx hk)).2;refine⟨?_,by omega⟩
    have:dataT ts=dataT (ts.take (k+1))++dataT (ts.drop (k+1)):=by
     unfold dataT;rw[<-List.flatten_append,<-List.map_append,List.take_append_drop]
    rw[this,dataT_step ts k _ hg,xla,xla]
    omega
   rw[xtl (by omega)] at ih ⊢;exact ih
theorem places_get (j k:Nat) (hj:j<k) (hk:k<=ts.length - 1):((placesT ts k).drop (4 * j)).take 4=putB 4 (dataT (ts.take (j+1))).length:=by
 induction k with
 | zero=>omega
 | succ k ih=>
   rw[placesT]
   by_cases hjk:j=k
   ·subst hjk
    rw[drop_pre _ _ _ (placesT_len ts j)];exact xtl (by rw[putB_len];omega)
   rw[List.drop_append_of_le_length (by rw[placesT_len];omega),List.take_append_of_le_length (by rw[xld,placesT_len];omega)];exact ih (by omega) (by omega)
include hl
theorem place_body (j:Nat) (hj:j+1<ts.length):placeN (bodyT ts) (j+1)=(dataT (ts.take (j+1))).length:=by
 have hb:=body_len ts h4 hn;have hd:=(dataT_pre ts h4 hn (j+1)).1;unfold placeN;rw[show 4 * (j+1)=4+4 * j by omega,<-List.drop_drop,body_after ts h4 hn];rw[List.drop_append_of_le_length (by rw[placesT_len];omega),List.take_append_of_le_length (by rw[xld,placesT_len];omega)];rw[places_get ts h4 hn j (ts.length - 1) (by omega) nlr];exact getB_put4 _ (by omega)
theorem place_zero (h16:ts.length<=16):placeN (bodyT ts) 0=ts.length:=by
 unfold placeN;rw[show 4 * 0=0 from rfl,List.drop_zero,body_first ts h4 hn];exact getB_put4 _ (by omega)
theorem from_body (j:Nat) (hj:j<ts.length):fromN (bodyT ts) j=(dataT (ts.take j)).length:=by
 cases j with
 | zero=>simp[fromN,dataT]
 | succ j=>
   unfold fromN;rw[if_neg (by omega)];exact place_body ts h4 hn hl j hj
theorem at_body (j:Nat) (hj:j<=ts.length):atN (bodyT ts) ts.length ((bodyT ts).length - 8 * ts.length) j=(dataT (ts.take j)).length:=by
 have hb:=body_len ts h4 hn;unfold atN
 by_cases h:j<ts.length
 ·rw[if_pos h]
  exact from_body ts h4 hn hl j h
 rw[if_neg h,xtl (by omega),hb]
 omega
theorem ok_body (k:Nat) (hk:k<=ts.length - 1):placesOk (bodyT ts) ((bodyT ts).length - 8 * ts.length) k=true:=by
 have hb:=body_len ts h4 hn
 induction k with
 | zero=>rfl
 | succ k ih=>
   obtain⟨p1,p2⟩:=dataT_pre ts h4 hn (k+1);have hg:ts[k]?=some ts[k]:=xge (by omega);have hs:=dataT_step ts k _ hg;have q1:(dataT (ts.take k)).length<=(dataT (ts.take (k+1))).length:=by rw[hs,xla];omega
   have q2:(dataT (ts.take (k+1))).length<=(bodyT ts).length - 8 * ts.length:=by omega
   rw[placesOk,ih (by omega),place_body ts h4 hn hl k (by omega),from_body ts h4 hn hl k (by omega),decide_eq_true p2,decide_eq_true q1,decide_eq_true q2]
   rfl
theorem tag_body (j:Nat) (hj:j<ts.length):tagN (bodyT ts) ts.length j=ts[j]:=by
 have hb:=body_len ts h4 hn;have hg:ts[j]?=some ts[j]:=xge hj;have hN:=fun k=>namesT_len (ts.take k) (fun t ht=>(h4 t (List.mem_of_mem_take ht)).1)
 have hd:=dataT_step ts j _ hg;have hnm:=namesT_step ts j _ hg;have e1:namesT ts=namesT (ts.take (j+1))++namesT (ts.drop (j+1)):=by
  unfold namesT;rw[<-List.flatten_append,<-List.map_append,List.take_append_drop]
 have e2:dataT ts=dataT (ts.take (j+1))++dataT (ts.drop (j+1)):=by
  unfold dataT;rw[<-List.flatten_append,<-List.map_append,List.take_append_drop]
 have h1:=hN j;rw[xlt] at h1;have hx:=(h4 ts[j] (xgx hj)).1;unfold tagN;rw[at_body ts h4 hn hl j (by omega),at_body ts h4 hn hl (j+1) (by omega),body_data ts h4 hn];rw[show 4 * (ts.length+j)=4 * ts.length+4 * j by omega,<-List.drop_drop,body_names ts h4 hn,e1,hnm,xaa,xaa];rw[drop_pre (namesT (ts.take j)) _ (4 * j) (by omega),take_pre _ _ 4 hx];rw[e2,hd,xaa,drop_pre (dataT (ts.take j)) _ _ rfl,take_pre _ _ _ (by rw[xla];omega)]
theorem tags_body:tagsN (bodyT ts) ts.length=ts:=by
 apply List.ext_getElem?;intro j
 by_cases hj:j<ts.length
 ·rw[tagsN_get _ _ _ hj,tag_body ts h4 hn hl j hj,xge hj]
 rw[List.getElem?_eq_none (by rw[tagsN_len];omega),List.getElem?_eq_none (by omega)]
end
theorem dec_enc (ts:List (Bs × Bs)) (h:encC ts=0):decC (encT ts)=0/\decT (encT ts)=ts:=by
 have he:encT ts=bodyT ts:=by rw[encT,if_pos h]
 rw[he];unfold encC at h
 split at h
 ·omega
 rename_i g1
 split at h
 ·rename_i g2
  split at h
  ·omega
  rename_i g3
  have h4:=checkT_ok ts [] g2;have hn:1<=ts.length:=by omega
  have hl:(bodyT ts).length<=2048:=by omega
  have hb:=body_len ts h4 hn;have h0:=place_zero ts h4 hn hl (by omega);have hd:=(dataT_pre ts h4 hn ts.length).2;rw[xtl nlr] at hd;have hc:decC (bodyT ts)=0:=by
   rw[dec_tags (bodyT ts) (by omega) (by omega) (by omega) (by omega) ⟨by rw[h0];exact ok_body ts h4 hn hl _ nlr,by rw[h0];omega⟩,h0,tags_body ts h4 hn hl];exact g2
  exact⟨hc,by rw[decT,if_pos hc,h0,tags_body ts h4 hn hl]⟩
 rename_i g2
 exact absurd h g2
theorem del_forth (p:Bs) (f t:Int) (s:Bs) (h:dencC p f t s=0) (hf:unOk (spanB f t)=true) :
 delC (dencB p f t s)=0/\datN (dencB p f t s) 0=p/\unpadG (datN (dencB p f t s) 1)=some s/\datN (dencB p f t s) 2=spanB f t:=by
 obtain⟨e1,e2⟩:=dtags_enc p f t s h;obtain⟨d1,d2⟩:=dec_enc _ e1;rw[e2] at d1 d2;have hp:p.length=32/\fitsG s=true:=by
  unfold dencC at h
  split at h
  ·rename_i hp
   split at h
   ·rename_i hv
    simp only[Bool.and_eq_true] at hv;exact⟨hp,hv.2⟩
   omega
  omega
 have k0:datN (dencB p f t s) 0=p:=by unfold datN;rw[d2];rfl
 have k1:datN (dencB p f t s) 1=pad4 s:=by unfold datN;rw[d2];rfl
 have k2:datN (dencB p f t s) 2=spanB f t:=by unfold datN;rw[d2];rfl
 have ku:=fits_unpad s hp.2;refine⟨?_,k0,by rw[k1];exact ku,k2⟩;have hok:delOk (dencB p f t s)=true:=by
  unfold delOk;rw[k0,k1,k2,ku,hf,d2,decide_eq_true hp.1]
  rfl
 unfold delC;rw[if_pos d1,if_pos hok]
theorem head_sig (sd:Bs) (h i:Nat) (m:Bs) (hh:h<=6):fitsG (sigG sd h i m)=true:=by
 have hl:=sigG_len sd h i m;have h0:headN (sigG sd h i m)=h:=by
  unfold headN sigG;rw[xaa,xaa];show (UInt8.ofNat h).toNat=h;rw[UInt8.toNat_ofNat']
  omega
 unfold fitsG sizeN;rw[h0,hl,decide_eq_true (by omega),decide_eq_true hh,decide_eq_true rfl]
 rfl
end Go.Proofs.YtjgepckncogdaaaGreat
