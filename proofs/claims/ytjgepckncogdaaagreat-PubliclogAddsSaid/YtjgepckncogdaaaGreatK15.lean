/- Contracts of functions, walks, plain facts. Conditions: those of each theorem. -/
import Derived.Test.YtjgepckncogdaaaGreatK14
set_option linter.unusedVariables false
set_option linter.unusedSimpArgs false
set_option maxRecDepth 100000
set_option maxHeartbeats 16000000
namespace Go.Proofs.YtjgepckncogdaaaGreat
open Go Go.RowKit _root_.Go.Proofs.Tryz
attribute [local go_sem ↓] Go.wp_at_zero Go.wp_at_succ
theorem kwithin_any (v m:Int) (hm:1<=m) (hm2:m<=4294967296) (w:World) :
 Calls prog 15 #[.int .i64 v,.int .i64 m] w fun e w'=>e=.returned (.int .i64 (v % m))/\w'=w:=by
 have hne:m≠0:=by omega
 have e1:=Int.emod_nonneg v hne;have e2:=Int.emod_lt_of_pos v (show 0<m by omega);have hlt:-m<v.tmod m/\v.tmod m<m:=⟨by have:=Int.lt_tmod_of_pos v (show 0<m by omega);omega,Int.tmod_lt_of_pos v (by omega)⟩
 have ht:v % m=if v.tmod m<0 then v.tmod m+m else v.tmod m:=by
  have:=Int.tmod_eq_emod (a:=v) (b:=m)
  rw[this] at hlt ⊢
  split at hlt<;>split<;>split<;>omega
 rw[ht];clear ht e1 e2;have hm0:(m == 0)=false:=by rw[beq_eq_false_iff_ne];exact hne
 by_cases hr:v.tmod m<0
 ·go_enter func15,ntmps15
  go_wp2_with fail
  go_returns
  exact⟨ret_int (by simp),rfl⟩
 go_enter func15,ntmps15
 go_wp2_with fail
 go_returns
 exact⟨ret_int (by simp),rfl⟩
def xorK (z:UInt8) (b:Int):UInt8:=UInt8.ofNat (bits .xor .u8 (z.toNat:Int) b).toNat
theorem xorK_eq (z:UInt8) (b:Int):bits .xor .u8 (z.toNat:Int) b=((xorK z b).toNat:Int):=by
 have h:0<=bits .xor .u8 (z.toNat:Int) b/\bits .xor .u8 (z.toNat:Int) b<256:=by
  show 0<=IntKind.u8.wrap _/\IntKind.u8.wrap _<256;rw[IntKind.wrap_u8]
  omega
 unfold xorK;generalize bits .xor .u8 (z.toNat:Int) b=x at *;simp
 omega
def flipK (l:Bs) (a b:Int):Bs:=l.set (a % (l.length:Int)).toNat (xorK (l.getD (a % (l.length:Int)).toNat 0) (1+b % 255))
theorem flipK_len (l:Bs) (a b:Int):(flipK l a b).length=l.length:=by simp[flipK]
theorem kmod_nat (v m:Int) (hm:0<m):∃k:Nat,v % m=(k:Int)/\(k:Int)<m:=by
 have h1:=Int.emod_nonneg v (show m≠0 by omega);have h2:=Int.emod_lt_of_pos v hm;exact⟨(v % m).toNat,by omega,by omega⟩
theorem kflip_some (B:Nat) (u:Value) (l:Bs) (a b:Int) (w:World) (hu:SeesB w B u l) (hB:B<=w.heap.size) (h1:1<=l.length) (h2:l.length<=1048576) :
 Calls prog 22 #[u,.int .i64 a,.int .i64 b] w (Gives (flipK l a b) w):=by
 obtain⟨A,c,rfl,-,-⟩:=hu.mk_;obtain⟨i,hi,hi2⟩:=kmod_nat a (l.length:Int) (by omega);obtain⟨q,hq,hq2⟩:=kmod_nat b 255 (by omega);have hi3:i<l.length:=by omega
 have hch:Hid (flipK l a b=l.set i (xorK (l.getD i 0) (1+(q:Int)))):=by show _=_;rw[flipK,hi,hq,xnc]
 have qa:=fun W=>kwithin_any a (l.length:Int) (by omega) (by omega) W
 have qb:=fun W=>kwithin_any b 255 (by omega) (by omega) W
 rw[hi] at qa;rw[hq] at qb;replace qa:=lhd qa;replace qb:=lhd qb;have hbA:=balloc w (.cells #[.slice A l.length c] 25);have hl3:=seesL_lit w 25 (show SeesAll w w.heap.size [.slice A l.length c] [l] from⟨hu.more hB,trivial⟩) (by simp[maxLen]);have hfl:[l].flatten=l:=by simp
 have hj:=rjoin_any _ _ _ _ hl3 nlr (by rw[hfl];omega);rw[hfl] at hj;replace hj:=lhd hj;have ipos:(0:Int)<(l.length:Int):=by omega
 have hx2:IntKind.i64.wrap (1+(q:Int))=1+(q:Int):=by rw[xwi];omega
 have hx:IntKind.u8.wrap (1+(q:Int))=1+(q:Int):=by rw[IntKind.wrap_u8];omega
 replace hi:=lhd hi;replace hq:=lhd hq
 go_enter func22,ntmps22
 go_wp2_with fail
 refine hj.out.mono ?_;rintro e w1 ⟨v1,rfl,h3,hb1⟩;rcases h3.2 with ⟨rfl,h0⟩|⟨g,cap,cur,rfl,hb,hh,hc,hm,hcur,htake⟩
 ·exact absurd h0 (by omega)
 have hcell:=h3.cellAt i (by omega);rw[vb_get,xge hi3,Option.map_some] at hcell;have hgd:l.getD i 0=l[i]:=by rw[xgd,xge hi3];rfl
 rw[hgd] at hch;generalize l[i]=z at *;have hz:=xorK_eq z (1+(q:Int));generalize xorK z (1+(q:Int))=y at *;replace hcell:w1.cell? ⟨g,i,none⟩=some (.int .u8 (z.toNat:Int)):=hcell;have hf:=h3.frozenAt i;have hst:=(h3.stored i (byV y)).1;rw[vb_set] at hst;replace hst:=lhd hst;replace hgd:=lhd hgd;replace h3:=lhd h3;clear hh hc hm hcur htake;dsimp only
 go_wp2_with fail
 go_region_with
  (first
   | (go_at_call 15;have _h:=mk1;refine (qb.out _).mono ?_;rintro e w5 ⟨rfl,rfl⟩)
   | (go_at_call 15;refine (qa.out _).mono ?_;rintro e w5 ⟨rfl,rfl⟩;have mk1:True:=trivial))
 all_goals
  go_wp2_with fail
  go_ret
  refine⟨.slice (some ⟨g,0,none⟩) l.length cap,rfl,?_,(Below.setCell (bgo (balloc w _) hb1) (p:=⟨g,i,none⟩) (Nat.le_trans (balloc w _).size hb) _).drew⟩;rw[hch.out];refine OwnB.mono (base:=(w.alloc (.cells #[.slice A l.length c] 25)).heap.size) ?_ (balloc w _).size;unfold OwnB;rw[List.length_set];exact hst.out
def tCase:Bs:=[99,97,115,101]
def randK (v:Int) (n:Nat):Bs:=(sha (tCase++putB 8 (u64 v))).take n
theorem randK_len (v:Int) (n:Nat) (h:n<=32):(randK v n).length=n:=by rw[randK,xlt,sha_len];omega
theorem lit4_run (W:World) (x0 x1 x2 x3:Value):(convert 25 25 (.slice (some ⟨W.heap.size,0,none⟩) 4 4)).run prog (W.alloc (.cells #[x0,x1,x2,x3] 5))=.ok (.slice (some ⟨W.heap.size,0,none⟩) 4 4) (W.alloc (.cells #[x0,x1,x2,x3] 5 (4,5))):=
 Lib.run_convert_bytes_const W 25 5 #[x0,x1,x2,x3] 4 4 underlying25 underlying5
theorem litB_sees (W:World) (l:Bs) (m:Nat × Nat) (hl:l.length<=1000):SeesB (W.alloc (.cells (vb l).toArray 5 m)) (W.heap.size+1) (.slice (some ⟨W.heap.size,0,none⟩) l.length l.length) l:=by
 refine⟨by rw[vb_len,Nat.mul_one],_,_,rfl,Nat.le_refl _,by unfold maxLen;omega,fun _=>⟨W.heap.size,0,rfl,by omega,fun k u hk=>?_⟩⟩;rw[<-hk,Nat.zero_add,World.cell?_alloc_mark];simp
theorem krandom_any (v:Int) (n:Nat) (hn:n<=32) (w:World):Calls prog 59 #[.int .i64 v,.int .i64 (n:Int)] w (Shows (randK v n) w):=by
 have m0:IntKind.u64.wrap v=((u64 v:Nat):Int):=by rw[IntKind.wrap_u64];unfold u64;omega
 have hlt:u64 v<18446744073709551616:=by unfold u64;omega
 have hr:Hid (randK v n=(sha (tCase++putB 8 (u64 v))).take n):=rfl;generalize randK v n=R at *;generalize u64 v=s at *;have hlr:=fun G (hG:G=w.heap.size) x0 x1 x2 x3=>(show (convert 25 25 (.slice (some ⟨G,0,none⟩) 4 4)).run prog (w.alloc (.cells #[x0,x1,x2,x3] 5))=.ok (.slice (some ⟨G,0,none⟩) 4 4) (w.alloc (.cells #[x0,x1,x2,x3] 5 (4,5))) by subst hG;exact lit4_run w x0 x1 x2 x3)
 have hl0:=hlr w.heap.size rfl (.int .u8 99) (.int .u8 97) (.int .u8 115) (.int .u8 101);have hls:SeesB (w.alloc (.cells #[.int .u8 99,.int .u8 97,.int .u8 115,.int .u8 101] 5 (4,5))) (w.heap.size+1) (.slice (some ⟨w.heap.size,0,none⟩) 4 4) tCase:=litB_sees w tCase (4,5) (by simp[tCase]);have hbl:=balloc w (.cells #[.int .u8 99,.int .u8 97,.int .u8 115,.int .u8 101] 5 (4,5));have hsz:(w.alloc (.cells #[.int .u8 99,.int .u8 97,.int .u8 115,.int .u8 101] 5 (4,5))).heap.size=w.heap.size+1:=xsa _ _;clear hlr
 go_enter func59,ntmps59
 go_wp2_with fail
 generalize w.alloc (.cells #[.int .u8 99,.int .u8 97,.int .u8 115,.int .u8 101] 5 (4,5))=w0 at *;rw[<-hsz] at hls;generalize hG:w.heap.size=G at hls hbl ⊢;replace hG:=lhd hG;replace hbl:Hid (Below G w w0):=hbl;clear hl0;refine (rput_any s 8 (by omega) hlt w0).mono ?_;rintro e w1 ⟨v1,rfl,h1,hb1⟩;obtain⟨A1,c1,rfl,-,-⟩:=h1.sees.mk_;replace hls:=(hls.below hb1).more hb1.size;dsimp only
 go_wp2_with fail
 have hl3:=seesL_lit w1 25 (show SeesAll w1 w1.heap.size [.slice (some ⟨G,0,none⟩) 4 4,.slice A1 (putB 8 s).length c1] [tCase,putB 8 s] from⟨hls,h1.sees,trivial⟩) (by simp[maxLen]);have hp8:=putB_len 8 s;have hfl:[tCase,putB 8 s].flatten=tCase++putB 8 s:=by simp
 have htc:tCase.length=4:=rfl;refine (rjoin_any _ _ _ _ hl3 nlr (by rw[hfl];simp[hp8,htc])).mono ?_;rintro e w3 ⟨v3,rfl,h3,hb3⟩;rw[hfl] at h3;have hw3:=bgo (bgo hb1 (balloc w1 _)) hb3;have hs3:=hw3.size;dsimp only
 go_wp2_with fail
 refine (rsum_any _ _ _ _ h3.sees nlr (by simp[hp8,htc])).mono ?_;rintro e w4 ⟨v4,rfl,h4,hb4⟩;have hf:=OwnB.from h4
 have h5:=h4.sees;have hsl:=sha_len (tCase++putB 8 s);replace hw3:=bgo hw3 hb4;obtain⟨A4,c4,rfl,hc1,hc2⟩:=h5.mk_;generalize sha (tCase++putB 8 s)=H at *;have i0:(n:Int)<=(c4:Int):=by omega
 have i1:(0:Int)<=(n:Int):=by omega
 have hcut:=h5.take (m:=n) (c':=c4) (by omega) (by omega) hc2;have hfr:From w3.heap.size (.slice A4 n c4):=hf.cut;replace hsl:=lhd hsl;dsimp only
 go_wp2_with fail
 go_returns
 refine⟨_,rfl,by rw[hr.out];exact hcut,?_,hfr.mono ?_⟩
 ·have h9:=hbl.out
  rw[<-hG.out] at h9;exact bgo h9 hw3
 have h9:=hbl.out;rw[<-hG.out] at h9;exact Nat.le_trans h9.size hs3
theorem strCells_vb (l:Bs):Lib.strCells (strB l)=vb l:=by simp[Lib.strCells,strB,vb,byV]
def Moved (w:World) (v v':Value):Prop:=v'.ownBlock=v.ownBlock\/v'.ownBlock=some w.heap.size
theorem run_append_str (w:World) (base:Nat) (ty:TypeId) (v:Value) (l m:Bs) (hown:OwnB w base v l) (hlen:l.length+m.length<=140737488355328) (hbase:base<=w.heap.size) :
 ∃v' w',(Builtin.append_ #[25,9] ty #[v,.string (strB m)]).run prog w=.ok v' w'/\OwnB w' base v' (l++m)/\w.grownBy w' v.ownBlock/\Moved w v v':=by
 obtain⟨i,hi,hz,hsz,hby⟩:=info_parts byte_info;have hsize:(strB m).size=m.length:=by simp[strB,ByteArray.size]
 obtain⟨v',w',hrun,h2,h3,h4⟩:=Lib.run_append_own_string (P:=prog) w base 25 9 ty 5 i underlying25 underlying9 hi hz hsz hby v l.length (vb l) hown (strB m) (by unfold maxLen;omega) (by omega) hbase;rw[strCells_vb,hsize] at h2;refine⟨v',w',hrun,?_,h3,?_⟩
 ·unfold OwnB
  rw[vb_append,xla];exact h2
 rcases hown.2 with ⟨rfl,h0⟩ | ⟨g0,cap0,cur0,rfl,hbg0,hg0,hnc0,hcm0,hcs0,htake0⟩
 ·by_cases hm:(strB m).size=0
  ·rw[h4.2 ⟨rfl,hm⟩]
   exact .inl rfl
  have hr:=run_append_nil_string (P:=prog) w 25 9 ty 5 i (.int .u8 0) underlying25 underlying9 hi hz (strB m) (by omega) (by omega) (by rw[hby];omega);rw[hr] at hrun;injection hrun with e1 e2;rw[<-e1];exact .inr rfl
 by_cases hroom:l.length+(strB m).size<=cap0
 ·have hr:=Lib.run_append_room_string (P:=prog) w 25 9 ty 5 i underlying25 underlying9 hi hsz g0 l.length cap0 cur0 hg0 (strB m) hroom (by omega)
  rw[hr] at hrun;injection hrun with e1 e2;rw[<-e1];exact .inl rfl
 ·have hr:=Lib.run_append_grow_string (P:=prog) w 25 9 ty 5 i (.int .u8 0) underlying25 underlying9 hi hz ⟨g0,0,none⟩ l.length cap0 (vb l) (by rw[vb_len,hsz,Nat.mul_one]) (fun j u hj=>by
   rw[add_zero',Nat.zero_add,World.ownsRow.cellAt hown j (by have:=(List.getElem?_eq_some_iff.1 hj).1;rw[vb_len] at this;omega)];exact hj) (strB m) (by omega) (by omega) (growslice_fits (by omega) (by rw[hby];omega))
  rw[hr] at hrun;injection hrun with e1 e2;rw[<-e1];exact .inr rfl
theorem wp_appS {o:Oper} {a:Act} {w:World} {K:Act->World->Prop} {Q:Exit->Act->World->Prop} (s x:Operand)
 (ho:o.op=.call { callee:=.builtin .append,args:=#[s,x],argTypes:=#[25,9] })
 (base:Nat) (v:Value) (l m:Bs) (hs:a.eval s=v) (hown:OwnB w base v l) (S:ByteArray) (hS:S=strB m) (hx:a.eval x=.string S)
 (hlen:l.length+m.length<=140737488355328) (hbase:base<=w.heap.size)
 (h:∀v' w',OwnB w' base v' (l++m)->w.grownBy w' v.ownBlock->Moved w v v'->K (a.put o.dst v') w'):o.wp prog a w K Q:=by
 subst hS;obtain⟨v',w',hrun,h2,h3,h4⟩:=run_append_str w base o.type v l m hown hlen hbase;unfold Oper.wp execOp;simp only[ho,resolve,invoke,builtin,Sem.run_bind,Sem.run_pure,Result.andThen_ok,List.map_toArray,xmp,List.map_nil,hs,hx,hrun];exact h v' w' h2 h3 h4
theorem wpList_appS {ops:Array Oper} {rest:List Oper} {o:Oper} {a:Act} {w:World} {Q:Exit->Act->World->Prop} (hgd:Region.wanted o (yielded ops a.tmps)=true) (s x:Operand)
 (ho:o.op=.call { callee:=.builtin .append,args:=#[s,x],argTypes:=#[25,9] })
 (base:Nat) (v:Value) (l m:Bs) (hs:a.eval s=v) (hown:OwnB w base v l) (S:ByteArray) (hS:S=strB m) (hx:a.eval x=.string S)
 (hlen:l.length+m.length<=140737488355328) (hbase:base<=w.heap.size)
 (h:∀v' w',OwnB w' base v' (l++m)->w.grownBy w' v.ownBlock->Moved w v v'->wpList prog ops Q rest (a.put o.dst v') w'):wpList prog ops Q (o :: rest) a w:=
 BigFrame.wpList_want hgd fun _ hK=>wp_appS s x ho base v l m hs hown S hS hx hlen hbase fun v' w' h2 h3 h4=>hK _ _ (h v' w' h2 h3 h4)
theorem step_appS {ops:Array Oper} {o:Oper} {a:Act} {w:World} {K:Act->World->Prop} {Q:Exit->Act->World->Prop} {E:Prop} (hgd:o.guard=none) (s x:Operand)
 (ho:o.op=.call { callee:=.builtin .append,args:=#[s,x],argTypes:=#[25,9] })
 (base:Nat) (v:Value) (l m:Bs) (hs:a.eval s=v) (hown:OwnB w base v l) (S:ByteArray) (hS:S=strB m) (hx:a.eval x=.string S)
 (hlen:l.length+m.length<=140737488355328) (hbase:base<=w.heap.size)
 (h:∀v' w',OwnB w' base v' (l++m)->w.grownBy w' v.ownBlock->Moved w v v'->K (a.put o.dst v') w'):if Region.wanted o (yielded ops a.tmps)=true then Oper.wp prog o a w K Q else E:=by
 have hw:Region.wanted o (yielded ops a.tmps)=true:=by simp[Region.wanted,hgd]
 rw[if_pos hw];exact wp_appS s x ho base v l m hs hown S hS hx hlen hbase h
theorem wp_appM {o:Oper} {a:Act} {w:World} {K:Act->World->Prop} {Q:Exit->Act->World->Prop} (s x:Operand)
 (ho:o.op=.call { callee:=.builtin .append,args:=#[s,x],argTypes:=#[25,25] })
 (base:Nat) (v:Value) (l:Bs) (hs:a.eval s=v) (hown:OwnB w base v l) (B:Nat) (u:Value) (m:Bs) (hx:a.eval x=u) (hr:SeesB w B u m)
 (hlen:l.length+m.length<=140737488355328) (hbase:base<=w.heap.size)
 (h:∀v' w',OwnB w' base v' (l++m)->w.grownBy w' v.ownBlock->Moved w v v'->K (a.put o.dst v') w'):o.wp prog a w K Q:=by
 obtain⟨i,hi,hz,hsz,hby⟩:=info_parts byte_info;refine wp_append_sees s x 25 ho base 5 i (.int .u8 0) 1 1 underlying25 hi hz hsz hby rfl (by omega) v l.length (vb l) hs hown B u m.length (vb m) hx hr (vb_one m) (by unfold maxLen;omega) (by omega) hbase ?_;intro v' w' h1 h2 h3;refine h v' w' ?_ h2 h3;unfold OwnB;rw[vb_append,xla];exact h1
theorem wpList_appM {ops:Array Oper} {rest:List Oper} {o:Oper} {a:Act} {w:World} {Q:Exit->Act->World->Prop} (hgd:Region.wanted o (yielded ops a.tmps)=true) (s x:Operand)
 (ho:o.op=.call { callee:=.builtin .append,args:=#[s,x],argTypes:=#[25,25] })
 (base:Nat) (v:Value) (l:Bs) (hs:a.eval s=v) (hown:OwnB w base v l) (B:Nat) (u:Value) (m:Bs) (hx:a.eval x=u) (hr:SeesB w B u m)
 (hlen:l.length+m.length<=140737488355328) (hbase:base<=w.heap.size)
 (h:∀v' w',OwnB w' base v' (l++m)->w.grownBy w' v.ownBlock->Moved w v v'->wpList prog ops Q rest (a.put o.dst v') w'):wpList prog ops Q (o :: rest) a w:=
 BigFrame.wpList_want hgd fun _ hK=>wp_appM s x ho base v l hs hown B u m hx hr hlen hbase fun v' w' h2 h3 h4=>hK _ _ (h v' w' h2 h3 h4)
theorem step_appM {ops:Array Oper} {o:Oper} {a:Act} {w:World} {K:Act->World->Prop} {Q:Exit->Act->World->Prop} {E:Prop} (hgd:o.guard=none) (s x:Operand)
 (ho:o.op=.call { callee:=.builtin .append,args:=#[s,x],argTypes:=#[25,25] })
 (base:Nat) (v:Value) (l:Bs) (hs:a.eval s=v) (hown:OwnB w base v l) (B:Nat) (u:Value) (m:Bs) (hx:a.eval x=u) (hr:SeesB w B u m)
 (hlen:l.length+m.length<=140737488355328) (hbase:base<=w.heap.size)
 (h:∀v' w',OwnB w' base v' (l++m)->w.grownBy w' v.ownBlock->Moved w v v'->K (a.put o.dst v') w'):if Region.wanted o (yielded ops a.tmps)=true then Oper.wp prog o a w K Q else E:=by
 have hw:Region.wanted o (yielded ops a.tmps)=true:=by simp[Region.wanted,hgd]
 rw[if_pos hw];exact wp_appM s x ho base v l hs hown B u m hx hr hlen hbase h
def Apart (v u:Value):Prop:=∀k,v.ownBlock=some k->u.ownBlock≠some k
theorem Apart.symm {v u:Value} (h:Apart v u):Apart u v:=fun k hk e=>h k e hk
theorem Apart.nil (u:Value):Apart (.slice none 0 0) u:=fun k hk=>by cases hk
theorem OwnB.apart {w w':World} {base:Nat} {v u:Value} {l:Bs} (h:OwnB w base u l) (hg:w.grownBy w' v.ownBlock) (ha:Apart v u):OwnB w' base u l:=by
 refine World.ownsRow.kept h hg ?_;rcases hu:u.ownBlock with _|k
 ·exact .inl rfl
 refine .inr fun e=>?_
 exact ha k e.symm hu
theorem Apart.moved {w:World} {base:Nat} {v v' u:Value} {l:Bs} (ha:Apart v u) (hm:Moved w v v') (hu:OwnB w base u l):Apart v' u:=fun k hk e=>by
 rcases hm with h|h
 ·exact ha k (by rw[<-h];exact hk) e
 rw[h] at hk;cases hk
 have:=(World.ownsRow.lt hu _ e).2
 omega
theorem below_grown {w w':World} {base:Nat} {v:Value} {l:Bs} (h:OwnB w base v l) (hg:w.grownBy w' v.ownBlock) (hb:base<=w.heap.size):Below base w w':=below_of_grown h hg hb
def EncP (ts:List (Bs × Bs)) (w:World) (e:Ending) (w':World):Prop:=∃v,e=.returned (.tuple #[v,.int .i64 (encC ts)])/\OwnB w' w.heap.size v (encT ts)/\Below w.heap.size w w'
theorem enc_bad {ts:List (Bs × Bs)} {c:Int} (h:encC ts=c) (hc:c≠0) {w w':World} {e:Ending} (he:e=.returned (.tuple #[.slice none 0 0,.int .i64 c])) (hb:Below w.heap.size w w'):EncP ts w e w':=by
 refine⟨.slice none 0 0,by rw[h];exact he,?_,hb⟩;rw[encT,h,if_neg hc];exact World.ownsRow_nil _ _ _ 1
theorem enc_ok {ts:List (Bs × Bs)} {v:Value} (h:encC ts=0) {w w':World} {e:Ending} (he:e=.returned (.tuple #[v,.int .i64 0])) (h1:OwnB w' w.heap.size v (bodyT ts)) (hb:Below w.heap.size w w'):EncP ts w e w':=by
 refine⟨v,by rw[h];exact he,?_,hb⟩;rw[encT,h,if_pos rfl];exact h1
theorem enc_two {w0 w1 w2:World} {base:Nat} {v5 v6 v7 v6' v7':Value} {l5 l6 l7 l6' l7':Bs} (h5:OwnB w0 base v5 l5) (h6:OwnB w0 base v6 l6) (h7:OwnB w0 base v7 l7) (a56:Apart v5 v6) (a57:Apart v5 v7) (a67:Apart v6 v7)
 (g1:w0.grownBy w1 v6.ownBlock) (m1:Moved w0 v6 v6') (h6':OwnB w1 base v6' l6') (g2:w1.grownBy w2 v7.ownBlock) (m2:Moved w1 v7 v7') (h7':OwnB w2 base v7' l7') (hb:base<=w0.heap.size) :
 OwnB w2 base v5 l5/\OwnB w2 base v6' l6'/\OwnB w2 base v7' l7'/\Apart v5 v6'/\Apart v5 v7'/\Apart v6' v7'/\Below base w0 w2:=by
 have x5:=h5.apart g1 a56.symm;have x7:=h7.apart g1 a67;have b1:=below_grown h6 g1 hb;have b2:=below_grown x7 g2 (Nat.le_trans hb g1.size);have c67:=a67.moved m1 h7;have c56:=a56.symm.moved m1 h5;refine⟨x5.apart g2 a57.symm,h6'.apart g2 c67.symm,h7',c56.symm,(a57.symm.moved m2 x5).symm,(c67.symm.moved m2 h6').symm,b1.trans b2⟩
theorem Box.apartV {w w':World} {p:Nat} {T:TypeId} {xs:List Value} {v:Value} (h:Box w p T xs) (hg:w.grownBy w' v.ownBlock) (hne:v.ownBlock≠some p):Box w' p T xs:=
 (hg.block p h.lt (fun e=>hne e.symm)).trans h
theorem dataT_take (ts:List (Bs × Bs)) (k:Nat):(dataT (ts.take k)).length<=(dataT ts).length:=by
 have h:dataT ts=dataT (ts.take k)++dataT (ts.drop k):=by
  unfold dataT;rw[<-List.flatten_append,<-List.map_append,List.take_append_drop]
 rw[h,xla]
 omega
theorem encode_any (B:Nat) (u:Value) (ts:List (Bs × Bs)) (w:World) (hu:SeesR w B u 2 ts.length (tagS ts)) (hB:B<=w.heap.size) (hn:ts.length<=1048576) (hd:(dataT ts).length<=1048576) :
 Calls prog 124 #[u] w (EncP ts w):=by
 obtain⟨A,c,rfl,-,-⟩:=hu.mk_
 by_cases hl:ts.length<1\/16<ts.length
 ·have hbad:Hid (encC ts=8):=by show _=_;rw[encC,if_pos hl]
  rcases hl with hl|hl
  ·have i0:(ts.length:Int)<1:=by omega
   go_enter func124,ntmps124
   go_wp2_with fail
   go_returns
   exact enc_bad hbad.out (by decide) rfl (Below.refl _ _)
  have i0:¬(ts.length:Int)<1:=by omega
  have i1:(16:Int)<(ts.length:Int):=by omega
  go_enter func124,ntmps124
  go_wp2_with fail
  go_returns
  exact enc_bad hbad.out (by decide) rfl (Below.refl _ _)
 have i0:¬(ts.length:Int)<1:=by omega
 have i1:¬(16:Int)<(ts.length:Int):=by omega
 have hck:=lhd (tcheck_any B _ ts w hu hB hn)
 by_cases hc0:checkT [] ts=0
 ·have hec:Hid (encC ts=if 2048<(bodyT ts).length then 2 else 0):=by show _=_;rw[encC,if_neg hl,if_pos hc0]
  have hok:=lhd (checkT_ok ts [] hc0);have hnl:1<=ts.length/\ts.length<=16:=by omega
  clear hl;rw[hc0] at hck;replace hc0:=lhd hc0;replace hu:=lhd hu
  go_enter func124,ntmps124
  go_wp2_with fail
  refine hck.out.mono ?_;rintro e w1 ⟨rfl,hb1⟩;clear hck;dsimp only
  go_wp2_with fail
  go_loopw [5,6,7,26] (fun v5 v6 v7 t wr=>∃k:Nat,k<=ts.length/\t=.int .i64 k/\Hid (OwnB wr w.heap.size v5 (placesT ts (k - 1)))/\Hid (OwnB wr w.heap.size v6 (namesT (ts.take k)))/\Hid (OwnB wr w.heap.size v7 (dataT (ts.take k)))/\Hid (Apart v5 v6)/\Hid (Apart v5 v7)/\Hid (Apart v6 v7)/\Hid (Below w.heap.size w wr)) (fun _ _ _ t _=>ts.length - (intOf t).toNat)
  case atStart=>exact⟨0,by omega,rfl,World.ownsRow_nil _ _ _ 1,World.ownsRow_nil _ _ _ 1,World.ownsRow_nil _ _ _ 1,Apart.nil _,Apart.nil _,Apart.nil _,hb1⟩
  case round=>
   clear hb1;obtain⟨k,hk,rfl,h5,h6,h7,a56,a57,a67,hb⟩:=hrel;obtain⟨A7,c7,rfl,-,-⟩:=h7.out.sees.mk_
   by_cases hlt:k<ts.length
   ·obtain⟨t,ht⟩:∃t,ts[k]?=some t:=⟨ts[k],xge hlt⟩
    obtain⟨b,o,A',c',rfl,hbB,x0,x1,sd⟩:=tag_at (hu.out.below (hb.out.mono hB)) k t ht;obtain⟨nm,da⟩:=t;dsimp only at x0 x1 sd;have hnm4:nm.length=4:=(hok.out (nm,da) (List.mem_of_getElem? ht)).1;have hs6:Hid (namesT (ts.take (k+1))=namesT (ts.take k)++nm):=namesT_step ts k _ ht;have hs7:Hid (dataT (ts.take (k+1))=dataT (ts.take k)++da):=dataT_step ts k _ ht;have hdl:(dataT (ts.take k)).length+da.length<=1048576:=by
     have h9:=dataT_take ts (k+1);rw[hs7.out,xla] at h9
     omega
    have hnl6:(namesT (ts.take k)).length<=64:=by
     rw[namesT_len _ (fun t ht=>(hok.out t (List.mem_of_mem_take ht)).1),xlt]
     omega
    have hpl:(placesT ts (k - 1)).length<=64:=by rw[placesT_len];omega
    have j0:(k:Int)<(ts.length:Int):=by omega
    have hal:=balloc wr (.cells #[.string (strB nm),.slice A' da.length c'] 173);have hbx:=Box.new wr 173 [.string (strB nm),.slice A' da.length c'];change Box (wr.alloc (.cells #[.string (strB nm),.slice A' da.length c'] 173)) _ _ _ at hbx;have sdW:SeesB (wr.alloc (.cells #[.string (strB nm),.slice A' da.length c'] 173)) w.heap.size (.slice A' da.length c') da:=(sd.below (hal.mono (Nat.le_trans hB hb.out.size))).more hB;have hbW:=lhd (bgo hb.out hal);have p6:u6.ownBlock≠some wr.heap.size:=fun e=>by have:=(World.ownsRow.lt h6.out _ e).2;omega
    have p7:(Value.slice A7 (dataT (ts.take k)).length c7).ownBlock≠some wr.heap.size:=fun e=>by have:=(World.ownsRow.lt h7.out _ e).2;omega
    have p5:u5.ownBlock≠some wr.heap.size:=fun e=>by have:=(World.ownsRow.lt h5.out _ e).2;omega
    have hSn:strB nm=strB nm:=rfl;replace h5:=lhd (h5.out.below hal);replace h6:=lhd (h6.out.below hal);replace h7:=lhd (h7.out.below hal);have hwp:w.heap.size<=wr.heap.size:=hb.out.size;replace hwp:=lhd hwp;clear hal hb sd hSn;replace hnl6:=lhd hnl6;replace hpl:=lhd hpl;replace hdl:=lhd hdl;replace hs6:=lhd hs6;replace hs7:=lhd hs7;replace sdW:=lhd sdW;replace p6:=lhd p6;replace p7:=lhd p7;replace p5:=lhd p5;replace hbx:=lhd hbx;generalize hN6:namesT (ts.take k)=N6 at *;generalize hD7:dataT (ts.take k)=D7 at *;generalize hP5:placesT ts (k - 1)=P5 at *;replace hN6:=lhd hN6;replace hD7:=lhd hD7;replace hP5:=lhd hP5;generalize hS:strB nm=S at *;replace hS:=lhd hS;replace hnm4:=lhd hnm4;have hd7:D7.length<=1048576:=by have:=hdl.out;omega
    have hd7':=lhd hd7;clear hd7
    by_cases k0:k=0
    ·have ik:¬(0:Int)<(k:Int):=by omega
     have hP':Hid (placesT ts (k+1 - 1)=P5):=by show _=_;rw[<-hP5.out,k0]
     replace k0:=lhd k0
     go_wp2_with fail
     clear x0 x1;generalize wr.alloc (.cells #[.string S,.slice A' da.length c'] 173)=W at *;generalize wr.heap.size=p at *;have hp6:=p6;have hp7:=p7;have y0:W.cell? ⟨p,0,none⟩=some (.string S):=hbx.out.cell 0;have y1:W.cell? ⟨p,1,none⟩=some (.slice A' da.length c'):=hbx.out.cell 1;have hbd:OwnB W.drew w.heap.size u6 N6:=h6.out;have g6:=lhd hbd;have g7:Hid (OwnB W.drew w.heap.size (.slice A7 D7.length c7) D7):=h7.out;have g5:Hid (OwnB W.drew w.heap.size u5 P5):=h5.out;have gbx:Hid (Box W.drew p 173 [.string S,.slice A' da.length c']):=hbx.out;have gsd:Hid (SeesB W.drew w.heap.size (.slice A' da.length c') da):=sdW.out;have gbW:Hid (Below w.heap.size w W.drew):=hbW.out.drew;have hlen6:N6.length+nm.length<=140737488355328:=by have:=hnl6.out;have:=hnm4.out;omega
     have hlen7:D7.length+da.length<=140737488355328:=by have:=hdl.out;omega
     have hSS:=hS.out.symm;replace hlen6:=lhd hlen6;replace hlen7:=lhd hlen7;replace hSS:=lhd hSS;clear hbd h5 h6 h7 hbx sdW hbW
     go_region_held3 (fun W':World=>W'.cell? ⟨p,0,none⟩=some (.string S)/\W'.cell? ⟨p,1,none⟩=some (.slice A' da.length c'))
      (first | exact⟨k2bx.out.cell 0,k2bx.out.cell 1⟩ | exact⟨k1bx.out.cell 0,k1bx.out.cell 1⟩ | exact⟨gbx.out.cell 0,gbx.out.cell 1⟩ | (go_keep;done))
      (first
       | (refine step_appS (by rfl) _ _ (by rfl) w.heap.size _ N6 nm (by rfl) f6.out S hSS.out (by rfl) hlen6.out ff.out.size ?_;intro v6' w2 hN hgN hmN
          have k2bx:=lhd (k1bx.out.apartV hgN hp6.out);have fin:=enc_two g5.out g7.out g6.out a57.out a56.out a67.out.symm hgD hmD hD hgN hmN hN gbW.out.size)
       | (refine step_appM (by rfl) _ _ (by rfl) w.heap.size _ D7 (by rfl) f7.out _ _ da (by rfl) fsd.out hlen7.out ff.out.size ?_;intro v7' w2 hD hgD hmD
          have k2bx:=lhd (k1bx.out.apartV hgD hp7.out);have fin:=enc_two g5.out g6.out g7.out a56.out a57.out a67.out hgN hmN hN hgD hmD hD gbW.out.size)
       | (refine step_appS (by rfl) _ _ (by rfl) w.heap.size _ N6 nm (by rfl) g6.out S hSS.out (by rfl) hlen6.out gbW.out.size ?_;intro v6' w1' hN hgN hmN
          have k1bx:=lhd (gbx.out.apartV hgN hp6.out);have f7:=lhd (g7.out.apart hgN a67.out);have fb:=below_grown g6.out hgN gbW.out.size;have fsd:=lhd (gsd.out.below fb);have ff:=lhd (gbW.out.trans fb))
       | (refine step_appM (by rfl) _ _ (by rfl) w.heap.size _ D7 (by rfl) g7.out _ _ da (by rfl) gsd.out hlen7.out gbW.out.size ?_;intro v7' w1' hD hgD hmD
          have k1bx:=lhd (gbx.out.apartV hgD hp7.out);have f6:=lhd (g6.out.apart hgD a67.out.symm);have fb:=below_grown g7.out hgD gbW.out.size;have ff:=lhd (gbW.out.trans fb)))
     all_goals
      replace fin:=lhd fin;clear y0 y1
      go_wp2_with fail
      go_roundw
      case rel=>
       refine⟨k+1,by omega,by go_num,?_⟩;rw[hP'.out,hs6.out,hs7.out]
       first
        | (obtain⟨r5,r6,r7,r56,r57,r67,rb⟩:=fin.out
           exact⟨r5,r6,r7,r56,r57,r67,gbW.out.trans rb⟩)
        | (obtain⟨r5,r7,r6,r57,r56,r76,rb⟩:=fin.out
           exact⟨r5,r6,r7,r56,r57,r76.symm,gbW.out.trans rb⟩)
      case measure=>simp[intOf];omega
    have ik:(0:Int)<(k:Int):=by omega
    have hpl':P5.length+4<=140737488355328:=by have:=hpl.out;omega
    have hP':Hid (placesT ts (k+1 - 1)=P5++putB 4 D7.length):=by
     show _=_;obtain⟨m,rfl⟩:∃m,k=m+1:=⟨k - 1,by omega⟩
     rw[<-hP5.out,<-hD7.out]
     rfl
    replace k0:=lhd k0;have iw:IntKind.u64.wrap (D7.length:Int)=(D7.length:Int):=by rw[IntKind.wrap_u64];have:=hd7'.out;omega
    have hput:=lhd (fun W=>put4_any D7.length (by have:=hd7'.out;omega) W);replace hpl':=lhd hpl'
    go_wp2_with fail
    clear x0 x1;generalize wr.alloc (.cells #[.string S,.slice A' da.length c'] 173)=W0 at *;generalize wr.heap.size=p at *;refine (hput.out _).mono ?_;rintro e w2 ⟨v2,rfl,f2,hb2⟩;have f2s:=lhd (f2.sees);obtain⟨A2,c2,rfl,-,-⟩:=f2.sees.mk_;have hl4:=putB_len 4 D7.length;replace h5:=lhd (h5.out.below hb2);replace h6:=lhd (h6.out.below hb2);replace h7:=lhd (h7.out.below hb2);replace hbx:=lhd (hbx.out.below hb2);replace sdW:=lhd (sdW.out.below (hb2.mono hbW.out.size));replace hbW:=lhd (bgo hbW.out hb2);clear f2 hb2 hput iw;replace hl4:=lhd hl4;dsimp only
    go_wp2_with (at_builtin;refine wpList_appM (by rfl) _ _ rfl w.heap.size _ P5 rfl h5.out _ _ (putB 4 D7.length) rfl f2s.out (by rw[hl4.out];exact hpl'.out) hbW.out.size ?_)
    intro v5' W hW5 hg5 hm5;have q6:=lhd (h6.out.apart hg5 a56.out);have q7:=lhd (h7.out.apart hg5 a57.out);have qbx:=lhd (hbx.out.apartV hg5 p5.out);have qb5:=below_grown h5.out hg5 hbW.out.size;have b56:=lhd (a56.out.moved hm5 h6.out);have b57:=lhd (a57.out.moved hm5 h7.out);replace sdW:=lhd (sdW.out.below qb5);replace hbW:=lhd (hbW.out.trans qb5);clear h5 h6 h7 hbx a56 a57 p5 hg5 hm5 qb5 f2s hl4 hpl';have h5:=lhd hW5;have h6:=q6;have h7:=q7;have hbx:=qbx;have a56:=b56;have a57:=b57;clear hW5 q6 q7 qbx b56 b57;obtain⟨u5',rfl⟩:∃u5':Value,u5'=v5':=⟨_,rfl⟩
    go_wp2_with fail
    have hp6:=p6;have hp7:=p7;have y0:W.cell? ⟨p,0,none⟩=some (.string S):=hbx.out.cell 0;have y1:W.cell? ⟨p,1,none⟩=some (.slice A' da.length c'):=hbx.out.cell 1;have hbd:OwnB W.drew w.heap.size u6 N6:=h6.out;have g6:=lhd hbd;have g7:Hid (OwnB W.drew w.heap.size (.slice A7 D7.length c7) D7):=h7.out;have g5:Hid (OwnB W.drew w.heap.size u5' (P5++putB 4 D7.length)):=h5.out;have gbx:Hid (Box W.drew p 173 [.string S,.slice A' da.length c']):=hbx.out;have gsd:Hid (SeesB W.drew w.heap.size (.slice A' da.length c') da):=sdW.out;have gbW:Hid (Below w.heap.size w W.drew):=hbW.out.drew;have hlen6:N6.length+nm.length<=140737488355328:=by have:=hnl6.out;have:=hnm4.out;omega
    have hlen7:D7.length+da.length<=140737488355328:=by have:=hdl.out;omega
    have hSS:=hS.out.symm;replace hlen6:=lhd hlen6;replace hlen7:=lhd hlen7;replace hSS:=lhd hSS;clear hbd h5 h6 h7 hbx sdW hbW
    go_region_held3 (fun W':World=>W'.cell? ⟨p,0,none⟩=some (.string S)/\W'.cell? ⟨p,1,none⟩=some (.slice A' da.length c'))
     (first | exact⟨k2bx.out.cell 0,k2bx.out.cell 1⟩ | exact⟨k1bx.out.cell 0,k1bx.out.cell 1⟩ | exact⟨gbx.out.cell 0,gbx.out.cell 1⟩ | (go_keep;done))
     (first
      | (refine step_appS (by rfl) _ _ (by rfl) w.heap.size _ N6 nm (by rfl) f6.out S hSS.out (by rfl) hlen6.out ff.out.size ?_;intro v6' w2 hN hgN hmN
         have k2bx:=lhd (k1bx.out.apartV hgN hp6.out);have fin:=enc_two g5.out g7.out g6.out a57.out a56.out a67.out.symm hgD hmD hD hgN hmN hN gbW.out.size)
      | (refine step_appM (by rfl) _ _ (by rfl) w.heap.size _ D7 (by rfl) f7.out _ _ da (by rfl) fsd.out hlen7.out ff.out.size ?_;intro v7' w2 hD hgD hmD
         have k2bx:=lhd (k1bx.out.apartV hgD hp7.out);have fin:=enc_two g5.out g6.out g7.out a56.out a57.out a67.out hgN hmN hN hgD hmD hD gbW.out.size)
      | (refine step_appS (by rfl) _ _ (by rfl) w.heap.size _ N6 nm (by rfl) g6.out S hSS.out (by rfl) hlen6.out gbW.out.size ?_;intro v6' w1' hN hgN hmN
         have k1bx:=lhd (gbx.out.apartV hgN hp6.out);have f7:=lhd (g7.out.apart hgN a67.out);have fb:=below_grown g6.out hgN gbW.out.size;have fsd:=lhd (gsd.out.below fb);have ff:=lhd (gbW.out.trans fb))
      | (refine step_appM (by rfl) _ _ (by rfl) w.heap.size _ D7 (by rfl) g7.out _ _ da (by rfl) gsd.out hlen7.out gbW.out.size ?_;intro v7' w1' hD hgD hmD
         have k1bx:=lhd (gbx.out.apartV hgD hp7.out);have f6:=lhd (g6.out.apart hgD a67.out.symm);have fb:=below_grown g7.out hgD gbW.out.size;have ff:=lhd (gbW.out.trans fb)))
    all_goals
     replace fin:=lhd fin;clear y0 y1
     go_wp2_with fail
     go_roundw
     case rel=>
      refine⟨k+1,by omega,by go_num,?_⟩;rw[hP'.out,hs6.out,hs7.out]
      first
       | (obtain⟨r5,r6,r7,r56,r57,r67,rb⟩:=fin.out
          exact⟨r5,r6,r7,r56,r57,r67,gbW.out.trans rb⟩)
       | (obtain⟨r5,r7,r6,r57,r56,r76,rb⟩:=fin.out
          exact⟨r5,r6,r7,r56,r57,r76.symm,gbW.out.trans rb⟩)
     case measure=>simp[intOf];omega
   obtain rfl:k=ts.length:=by omega
   have j0:¬(ts.length:Int)<(ts.length:Int):=by omega
   have iw:IntKind.u64.wrap (ts.length:Int)=(ts.length:Int):=by rw[IntKind.wrap_u64];omega
   have hput:=lhd (fun W=>put4_any ts.length (by omega) W);rw[xtl nlr] at h6 h7 a57 a67 ⊢;obtain⟨A5,c5,rfl,-,-⟩:=h5.out.sees.mk_;obtain⟨A6,c6,rfl,-,-⟩:=h6.out.sees.mk_;have hbt:Hid ([putB 4 ts.length,placesT ts (ts.length - 1),namesT ts,dataT ts].flatten=bodyT ts):=by show _=_;simp[bodyT]
   have hbl:Hid ((bodyT ts).length<=1099511627776):=by
    show _<=_;rw[bodyT_len ts (fun t ht=>(hok.out t ht).1) hnl.1]
    omega
   go_wp2_with fail
   refine (hput.out wr).mono ?_;rintro e w2 ⟨v2,rfl,f2,hb2⟩;have hl4:=putB_len 4 ts.length;have s2:=f2.sees;obtain⟨A2,c2,rfl,-,-⟩:=f2.sees.mk_;have s5:=(h5.out.sees.below hb2).more hb2.size;have s6:=(h6.out.sees.below hb2).more hb2.size;have s7:=(h7.out.sees.below hb2).more hb2.size;have hbW:=lhd (bgo hb.out hb2);have hlit:=seesL_lit w2 25 (show SeesAll w2 w2.heap.size [.slice A2 (putB 4 ts.length).length c2,.slice A5 (placesT ts (ts.length - 1)).length c5,.slice A6 (namesT ts).length c6,.slice A7 (dataT ts).length c7] [putB 4 ts.length,placesT ts (ts.length - 1),namesT ts,dataT ts] from⟨s2,s5,s6,s7,trivial⟩) (by simp[maxLen]);have hcat:=concat_any _ _ _ _ hlit nlr (by rw[hbt.out];exact hbl.out);rw[hbt.out] at hcat;replace hcat:=lhd hcat;have hal2:=lhd (bgo hbW.out (balloc w2 (.cells #[.slice A2 (putB 4 ts.length).length c2,.slice A5 (placesT ts (ts.length - 1)).length c5,.slice A6 (namesT ts).length c6,.slice A7 (dataT ts).length c7] 25)));clear s2 s5 s6 s7 h5 h6 h7 a56 a57 a67 hput f2 hb2 hb hlit iw;dsimp only
   go_wp2_with fail
   refine hcat.out.mono ?_;rintro e w3 ⟨v3,rfl,f3,hb3⟩;have f3':OwnB w3 w.heap.size v3 (bodyT ts):=f3.mono hal2.out.size;obtain⟨A3,c3,rfl,-,-⟩:=f3.sees.mk_;clear hcat f3
   by_cases hlong:2048<(bodyT ts).length
   ·have hbad:Hid (encC ts=2):=by show _=_;rw[hec.out,if_pos hlong]
    have j1:(2048:Int)<((bodyT ts).length:Int):=by omega
    dsimp only
    go_wp2_with fail
    go_returns
    exact enc_bad hbad.out (by decide) rfl (bgo hal2.out hb3)
   have hgood:Hid (encC ts=0):=by show _=_;rw[hec.out,if_neg hlong]
   have j1:¬(2048:Int)<((bodyT ts).length:Int):=by omega
   replace f3':=lhd f3';dsimp only
   go_wp2_with fail
   go_returns
   exact enc_ok hgood.out rfl f3'.out (bgo hal2.out hb3)
 have hbad:Hid (encC ts=checkT [] ts):=by show _=_;rw[encC,if_neg hl,if_neg hc0]
 clear hl;generalize checkT [] ts=E at *;have hEb:(E == 0)=false:=by rw[beq_eq_false_iff_ne];exact hc0
 go_enter func124,ntmps124
 go_wp2_with fail
 refine hck.out.mono ?_;rintro e w1 ⟨rfl,hb1⟩;clear hck;dsimp only
 go_wp2_with fail
 go_returns
 exact enc_bad hbad.out hc0 rfl hb1
def lastT (ts:List (Bs × Bs)) (k:Nat):Bs:=if k=0 then [] else (ts.getD (k - 1) ([],[])).1
theorem lastT_succ (ts:List (Bs × Bs)) (m:Nat) (t:Bs × Bs) (h:ts[m]?=some t):lastT ts (m+1)=t.1:=by
 rw[lastT,if_neg (by omega),Nat.add_sub_cancel,xgd,h]
 rfl
theorem rencode_any (B:Nat) (u:Value) (ts:List (Bs × Bs)) (w:World) (hu:SeesR w B u 2 ts.length (tagS ts)) (hB:B<=w.heap.size) (hn:ts.length<=1048576) (hd:(dataT ts).length<=1048576) :
 Calls prog 227 #[u] w (EncP ts w):=by
 obtain⟨A,c,rfl,-,-⟩:=hu.mk_
 by_cases hl:ts.length<1\/16<ts.length
 ·have hbad:Hid (encC ts=8):=by show _=_;rw[encC,if_pos hl]
  rcases hl with hl|hl
  ·have i0:(ts.length:Int)<1:=by omega
   go_enter func227,ntmps227
   go_wp2_with fail
   go_returns
   exact enc_bad hbad.out (by decide) rfl (Below.refl _ _)
  have i0:¬(ts.length:Int)<1:=by omega
  have i1:(16:Int)<(ts.length:Int):=by omega
  go_enter func227,ntmps227
  go_wp2_with fail
  go_returns
  exact enc_bad hbad.out (by decide) rfl (Below.refl _ _)
 have i0:¬(ts.length:Int)<1:=by omega
 have i1:¬(16:Int)<(ts.length:Int):=by omega
 have hnl:1<=ts.length/\ts.length<=16:=by omega
 have hec:Hid (encC ts=if checkT [] ts=0 then (if 2048<(bodyT ts).length then 2 else 0) else checkT [] ts):=by show _=_;rw[encC,if_neg hl]
 have hbad:Hid (∀c,checkT [] ts=c->c≠0->encC ts=c):=fun c h h0=>by rw[hec.out,if_neg (by omega),h]
 clear hl;replace hu:=lhd hu
 go_enter func227,ntmps227
 go_wp2_with fail
 go_loopw [4,5] (fun sz t wr=>∃k:Nat,k<=ts.length/\t=.int .i64 k/\sz=.int .i64 ((8 * ts.length+(dataT (ts.take k)).length:Nat):Int)/\Hid (checkT (lastT ts k) (ts.drop k)=checkT [] ts)/\Hid (Below w.heap.size w wr)) (fun _ t _=>ts.length - (intOf t).toNat)
 case atStart=>exact⟨0,by omega,rfl,by simp[dataT],rfl,Below.refl _ _⟩
 case round=>
  obtain⟨k,hk,rfl,rfl,hch,hb⟩:=hrel
  by_cases hlt:k<ts.length
  ·obtain⟨t,ht⟩:∃t,ts[k]?=some t:=⟨ts[k],xge hlt⟩
   obtain⟨b,o,A',c',hAe,hbB,x0,x1,-⟩:=tag_at (hu.out.below (hb.out.mono hB)) k t ht;have hnm:=fun W=>rnamed_any t.1 W
   have hcm:=lhd (checkT_step ts k t (lastT ts k) ht);have hcn:=lhd (checkT_name ts k t (lastT ts k) ht);have hco:=lhd (checkT_order ts k t (lastT ts k) ht);have hcf:=lhd (checkT_form ts k t (lastT ts k) ht);have hls:=lhd (lastT_succ ts k t ht);have hst:=lhd (dataT_step ts k t ht);have hdl:=lhd (dataT_take ts (k+1));have l1:=strB_toList t.1;have hprev:∀m,k=m+1->∃(tm:Bs × Bs),lastT ts k=tm.1/\wr.cell? ⟨b,o+m * 2,none⟩=some (.string (strB tm.1)):=fun m hm=>by
    obtain⟨tm,htm⟩:∃tm,ts[m]?=some tm:=⟨ts[m]'(by omega),xge (by omega)⟩
    obtain⟨b',o',A2,c2,hAe',hbB',y0,-,-⟩:=tag_at (hu.out.below (hb.out.mono hB)) m tm htm;rw[hAe] at hAe';injection hAe' with e1;injection e1 with e1 e2 e3;subst e1 e2;exact⟨tm,by rw[hm];exact lastT_succ ts m tm htm,y0⟩
   obtain⟨nm,da⟩:=t;dsimp only at hnm hcm hcn hco hcf hls hst l1 x0 x1;have j0:(k:Int)<(ts.length:Int):=by omega
   have hbk:b<wr.heap.size:=Nat.lt_of_lt_of_le hbB (Nat.le_trans hB hb.out.size);replace ht:=lhd ht;replace hprev:=lhd hprev;replace hu:=lhd hu;subst hAe;generalize hS1:strB nm=S1 at *;replace hS1:=lhd hS1;have hsz:(dataT (ts.take (k+1))).length=(dataT (ts.take k)).length+da.length:=by rw[hst.out,xla]
   have hdl':(dataT (ts.take (k+1))).length<=1048576:=Nat.le_trans hdl.out hd;generalize hDk:(dataT (ts.take k)).length=dk at *;generalize hDk1:(dataT (ts.take (k+1))).length=dk1 at *;replace hDk:=lhd hDk;replace hDk1:=lhd hDk1;have hkb:dk+da.length<=1048576:=by omega
   replace hsz:=lhd hsz;have hkb':=lhd hkb;cases hV:namedG nm with
   | false=>
     have hend:=hcn.out hV;rw[hch.out] at hend;rw[hV] at hnm;replace hnm:=lhd hnm;replace hend:=lhd hend
     go_wp2_with fail
     refine (hnm.out _).mono ?_;rintro e w2 ⟨rfl,hb2⟩;dsimp only
     go_wp2_with fail
     go_returns
     exact enc_bad (hbad.out _ hend.out (by decide)) (by decide) rfl (bgo hb.out hb2)
   | true=>
     rw[hV] at hnm;replace hnm:=lhd hnm;replace hV:=lhd hV;have z0:=fun w2 (h:Below wr.heap.size wr w2)=>(h.cell (p:=⟨b,o+k * 2,none⟩) hbk).trans x0
     have z1:=fun w2 (h:Below wr.heap.size wr w2)=>(h.cell (p:=⟨b,o+k * 2+1,none⟩) hbk).trans x1
     replace z0:=lhd z0;replace z1:=lhd z1
     go_wp2_with fail
     refine (hnm.out _).mono ?_;rintro e w2 ⟨rfl,hb2⟩;clear hnm x0 x1;have x0:=z0.out w2 hb2;have x1:=z1.out w2 hb2;replace hb:=lhd (bgo hb.out hb2);dsimp only
     by_cases k0:k=0
     ·have hD:(Op.bytesLess nm (lastT ts k) || nm == lastT ts k)=false:=by rw[lastT,if_pos k0];exact less_nil nm (named_len nm hV.out)
      have ik:decide (0<k)=false:=by simp;omega
      replace k0:=lhd k0;clear hb2 z0 z1
      by_cases h4:da.length % 4=0
      ·have hend:Hid (checkT (lastT ts (k+1)) (ts.drop (k+1))=checkT [] ts):=by show _=_;rw[hls.out,<-hcm.out hV.out hD h4,hch.out]
       have i4:((da.length:Nat):Int) % 4=0:=by omega
       replace h4:=lhd h4;replace hD:=lhd hD;clear hcm hcn hco hcf hch
       go_wp2_with fail
       go_quiet (fail)
       go_wp2_with fail
       go_roundw
       case rel=>exact⟨k+1,by omega,by go_num,by rw[hDk1.out,hsz.out];go_num,hend,below_drewN hb.out _⟩
       case measure=>simp[intOf];omega
      have hend:=hcf.out hV.out hD h4;rw[hch.out] at hend;have i4:¬(((da.length:Nat):Int) % 4=0):=by omega
      replace hend:=lhd hend;replace h4:=lhd h4;replace hD:=lhd hD;clear hcm hcn hco hcf hch
      go_wp2_with fail
      go_quiet (fail)
      go_wp2_with fail
      go_returns
      exact enc_bad (hbad.out _ hend.out (by decide)) (by decide) rfl (below_drewN hb.out _)
     obtain⟨m,hm⟩:∃m,k=m+1:=⟨k - 1,by omega⟩
     obtain⟨tm,hl9,y0⟩:=hprev.out m hm;replace y0:=(hb2.cell (p:=⟨b,o+m * 2,none⟩) hbk).trans y0;have l2:=strB_toList tm.1;have hlt9:=less_total tm.1 nm;rw[hl9] at hch hcm hcn hco hcf;generalize tm.1=la at *;generalize strB la=S2 at *;have ik:decide (0<k)=true:=by simp;omega
     have im:(k:Int) - 1=(m:Int):=by omega
     have im2:(m:Int)<(ts.length:Int):=by omega
     replace hm:=lhd hm;replace k0:=lhd k0;replace hl9:=lhd hl9;clear hb2 z0 z1;cases hp:Op.bytesLess la nm with
     | false=>
       rw[hp] at hlt9;have hend:=hco.out hV.out (by rw[<-hlt9];rfl);rw[hch.out] at hend;replace hend:=lhd hend;replace hlt9:=lhd hlt9;clear hcm hcn hco hcf hch
       go_wp2_with fail
       go_quiet (fail)
       go_wp2_with fail
       go_returns
       exact enc_bad (hbad.out _ hend.out (by decide)) (by decide) rfl (below_drewN hb.out _)
     | true=>
       rw[hp] at hlt9;have hD:(Op.bytesLess nm la || nm == la)=false:=by rw[<-hlt9];rfl
       replace hlt9:=lhd hlt9
       by_cases h4:da.length % 4=0
       ·have hend:Hid (checkT (lastT ts (k+1)) (ts.drop (k+1))=checkT [] ts):=by show _=_;rw[hls.out,<-hcm.out hV.out hD h4,hch.out]
        have i4:((da.length:Nat):Int) % 4=0:=by omega
        replace h4:=lhd h4;replace hD:=lhd hD;clear hcm hcn hco hcf hch
        go_wp2_with fail
        go_quiet (fail)
        go_wp2_with fail
        go_roundw
        case rel=>exact⟨k+1,by omega,by go_num,by rw[hDk1.out,hsz.out];go_num,hend,below_drewN hb.out _⟩
        case measure=>simp[intOf];omega
       have hend:=hcf.out hV.out hD h4;rw[hch.out] at hend;have i4:¬(((da.length:Nat):Int) % 4=0):=by omega
       replace hend:=lhd hend;replace h4:=lhd h4;replace hD:=lhd hD;clear hcm hcn hco hcf hch
       go_wp2_with fail
       go_quiet (fail)
       go_wp2_with fail
       go_returns
       exact enc_bad (hbad.out _ hend.out (by decide)) (by decide) rfl (below_drewN hb.out _)
  have hk9:k=ts.length:=by omega
  subst hk9;have j0:¬(ts.length:Int)<(ts.length:Int):=by omega
  rw[List.drop_eq_nil_of_le nlr] at hch;have hc0:checkT [] ts=0:=by rw[<-hch.out];rfl
  rw[xtl nlr];have hok:=lhd (checkT_ok ts [] hc0);have hbl:(bodyT ts).length=8 * ts.length+(dataT ts).length:=bodyT_len ts (fun t ht=>(hok.out t ht).1) hnl.1
  by_cases hlong:2048<(bodyT ts).length
  ·have hbd:Hid (encC ts=2):=by show _=_;rw[hec.out,if_pos hc0,if_pos hlong]
   have j1:(2048:Int)<((8 * ts.length+(dataT ts).length:Nat):Int):=by omega
   clear hch;replace hc0:=lhd hc0
   go_wp2_with fail
   go_returns
   exact enc_bad hbd.out (by decide) rfl hb.out
  have hgd:Hid (encC ts=0):=by show _=_;rw[hec.out,if_pos hc0,if_neg hlong]
  have j1:¬(2048:Int)<((8 * ts.length+(dataT ts).length:Nat):Int):=by omega
  have iw:IntKind.u64.wrap (ts.length:Int)=(ts.length:Int):=by rw[IntKind.wrap_u64];omega
  have hput:=lhd (fun W=>rput_any ts.length 4 (by omega) (by omega) W);have hn4:Hid ((namesT ts).length=4 * ts.length):=namesT_len ts (fun t ht=>(hok.out t ht).1);have hnk:Hid (∀k,(namesT (ts.take k)).length<=64):=fun k=>by
   rw[namesT_len _ (fun t ht=>(hok.out t (List.mem_of_mem_take ht)).1),xlt]
   omega
  clear hch;replace hc0:=lhd hc0;replace hbl:=lhd hbl
  go_wp2_with fail
  refine (hput.out wr).mono ?_;rintro e w2 ⟨v2,rfl,f2,hb2⟩;have f2':OwnB w2 w.heap.size v2 (putB 4 ts.length):=f2.mono hb.out.size;replace hb2:=bgo hb.out hb2;clear hput iw hb f2;obtain⟨w0,rfl⟩:∃w0:World,w0=w:=⟨_,rfl⟩
  dsimp only
  go_wp2_with fail
  go_loopw [6,7,8] (fun ou pl t wr=>∃k:Nat,k+1<=ts.length/\t=.int .i64 k/\pl=.int .i64 ((dataT (ts.take k)).length:Int)/\Hid (OwnB wr w0.heap.size ou (putB 4 ts.length++placesT ts k))/\Hid (Below w0.heap.size w0 wr)) (fun _ _ t _=>ts.length - (intOf t).toNat)
  case atStart=>exact⟨0,by omega,rfl,by simp[dataT],by show OwnB _ _ _ _;rw[placesT,List.append_nil];exact f2',hb2⟩
  case round=>
   clear f2' hb2;obtain⟨k,hk,rfl,rfl,ho,hb⟩:=hrel
   by_cases hlt:k+1<ts.length
   ·obtain⟨t,ht⟩:∃t,ts[k]?=some t:=⟨ts[k],xge (by omega)⟩
    obtain⟨b,o,A',c',rfl,hbB,x0,x1,-⟩:=tag_at (hu.out.below (hb.out.mono hB)) k t ht;have hst:=lhd (dataT_step ts k t ht);have hdl:=lhd (dataT_take ts (k+1));obtain⟨nm,da⟩:=t;dsimp only at hst x0 x1;have hsz:(dataT (ts.take (k+1))).length=(dataT (ts.take k)).length+da.length:=by rw[hst.out,xla]
    have hdl':(dataT (ts.take (k+1))).length<=1048576:=Nat.le_trans hdl.out hd;have hps:Hid (placesT ts (k+1)=placesT ts k++putB 4 (dataT (ts.take (k+1))).length):=rfl;have hpl:(putB 4 ts.length++placesT ts k).length<=1000:=by rw[xla,putB_len,placesT_len];omega
    generalize hDk:(dataT (ts.take k)).length=dk at *;generalize hDk1:(dataT (ts.take (k+1))).length=dk1 at *;replace hDk:=lhd hDk;replace hDk1:=lhd hDk1;have hsm:(dk:Int)+(da.length:Int)=(dk1:Int):=by omega
    have hkb:(dk:Int)+(da.length:Int)<=1048576:=by omega
    have hsz':=lhd hsz;have hdl9:=lhd hdl';have hpl':=lhd hpl;have hsm':=lhd hsm;have j2:(k:Int)+1<(ts.length:Int):=by omega
    have j3:(k:Int)<(ts.length:Int):=by omega
    have iw:IntKind.u64.wrap (dk1:Int)=(dk1:Int):=by rw[IntKind.wrap_u64];omega
    have iw2:IntKind.u64.wrap ((dk:Int)+(da.length:Int))=(dk1:Int):=by rw[hsm];exact iw
    have hput:=lhd (fun W=>rput_any dk1 4 (by omega) (by omega) W);clear hsm hsz hdl' hpl;replace ht:=lhd ht
    go_wp2_with fail
    refine (hput.out wr).mono ?_;rintro e w3 ⟨v3,rfl,f3,hb3⟩;have f3s:=lhd f3.sees;obtain⟨A3,c3,rfl,-,-⟩:=f3.sees.mk_;have hl4:=lhd (putB_len 4 dk1);have ho3:=lhd (ho.out.below hb3);replace hb:=lhd (bgo hb.out hb3);clear f3 hb3 hput iw iw2 ho x0 x1;dsimp only
    go_wp2_with (at_builtin;refine wpList_app (by rfl) _ _ rfl w0.heap.size _ _ rfl ho3.out _ _ (putB 4 dk1) rfl f3s.out (by rw[hl4.out];have:=hpl'.out;omega) hb.out.size ?_)
    intro v' w' hW2 hb4;have hW2:=lhd hW2;have hb4:=lhd (hb.out.trans hb4);have hsm:=hsm'.out;have hnum:(Value.int .i64 ((dk:Int)+(da.length:Int)))=.int .i64 (dk1:Int):=by rw[hsm]
    replace hnum:=lhd hnum;clear hsm
    go_wp2_with fail
    go_roundw
    case rel=>exact⟨k+1,by omega,by go_num,by rw[hDk1.out];exact hnum.out,by show OwnB _ _ _ _;rw[hps.out,<-xaa];exact hW2.out,hb4⟩
    case measure=>simp[intOf];omega
   have hk9:k=ts.length - 1:=by omega
   have j2:¬(k:Int)+1<(ts.length:Int):=by omega
   rw[hk9] at ho;have hk10:=lhd hk9;clear hk9;obtain⟨w5,hw5⟩:∃w5:World,w5=wr:=⟨_,rfl⟩
   have hb5:=hb;have ho5:=ho;rw[<-hw5] at hb5 ho5;replace hw5:=lhd hw5
   go_wp2_with fail
   rw[<-hw5.out]
   go_loopw [6,9] (fun ou t wr=>∃k:Nat,k<=ts.length/\t=.int .i64 k/\Hid (OwnB wr w0.heap.size ou (putB 4 ts.length++placesT ts (ts.length - 1)++namesT (ts.take k)))/\Hid (Below w0.heap.size w0 wr)) (fun _ t _=>ts.length - (intOf t).toNat)
   case atStart=>exact⟨0,by omega,rfl,by show OwnB _ _ _ _;rw[show namesT (ts.take 0)=[] from rfl,List.append_nil];exact ho5.out,hb5⟩
   case round=>
    clear ho hb ho5 hb5 hw5;obtain⟨q,hq,rfl,ho,hb⟩:=hrel
    by_cases hlt:q<ts.length
    ·obtain⟨t,ht⟩:∃t,ts[q]?=some t:=⟨ts[q],xge (by omega)⟩
     obtain⟨b,o,A',c',rfl,hbB,x0,x1,-⟩:=tag_at (hu.out.below (hb.out.mono hB)) q t ht;have hst:=lhd (namesT_step ts q t ht);have hq4:=hnk.out (q+1);rw[hst.out,xla] at hq4;obtain⟨nm,da⟩:=t;dsimp only at hst x0 x1 hq4;have hpl:(putB 4 ts.length++placesT ts (ts.length - 1)++namesT (ts.take q)).length+nm.length<=140737488355328:=by rw[xla,xla,putB_len,placesT_len];omega
     replace hpl:=lhd hpl;have j3:(q:Int)<(ts.length:Int):=by omega
     replace ht:=lhd ht;replace hq4:=lhd hq4;generalize hS:strB nm=S at *;replace hS:=lhd hS
     go_wp2_with (at_builtin;refine wpList_appS (by rfl) _ _ rfl w0.heap.size _ _ nm rfl ho.out S hS.out.symm rfl hpl.out hb.out.size ?_)
     intro v' w' hW2 hg4 hm4;have hb4:=lhd (hb.out.trans (below_grown ho.out hg4 hb.out.size));have hW2:=lhd hW2;clear hg4 hm4
     go_wp2_with fail
     go_roundw
     case rel=>exact⟨q+1,by omega,by go_num,by show OwnB _ _ _ _;rw[hst.out];simpa only [xaa] using hW2.out,hb4⟩
     case measure=>simp[intOf];omega
    have hq9:q=ts.length:=by omega
    subst hq9;have j3:¬(ts.length:Int)<(ts.length:Int):=by omega
    rw[xtl nlr] at ho;obtain⟨w6,hw6⟩:∃w6:World,w6=wr:=⟨_,rfl⟩
    have hb6:=hb;have ho6:=ho;rw[<-hw6] at hb6 ho6;replace hw6:=lhd hw6
    go_wp2_with fail
    rw[<-hw6.out]
    go_loopw [6,10] (fun ou t wr=>∃k:Nat,k<=ts.length/\t=.int .i64 k/\Hid (OwnB wr w0.heap.size ou (putB 4 ts.length++placesT ts (ts.length - 1)++namesT ts++dataT (ts.take k)))/\Hid (Below w0.heap.size w0 wr)) (fun _ t _=>ts.length - (intOf t).toNat)
    case atStart=>exact⟨0,by omega,rfl,by show OwnB _ _ _ _;rw[show dataT (ts.take 0)=[] from rfl,List.append_nil];exact ho6.out,hb6⟩
    case round=>
     clear ho hb ho6 hb6 hw6;obtain⟨r,hr,rfl,ho,hb⟩:=hrel
     by_cases hlt:r<ts.length
     ·obtain⟨t,ht⟩:∃t,ts[r]?=some t:=⟨ts[r],xge (by omega)⟩
      obtain⟨b,o,A',c',rfl,hbB,x0,x1,sd⟩:=tag_at (hu.out.below (hb.out.mono hB)) r t ht;have hst:=lhd (dataT_step ts r t ht);have hdl:=dataT_take ts (r+1);rw[hst.out,xla] at hdl;obtain⟨nm,da⟩:=t;dsimp only at hst x0 x1 hdl sd;have hpl:(putB 4 ts.length++placesT ts (ts.length - 1)++namesT ts++dataT (ts.take r)).length+da.length<=140737488355328:=by rw[xla,xla,xla,putB_len,placesT_len,hn4.out];omega
      replace hpl:=lhd hpl;have j3:(r:Int)<(ts.length:Int):=by omega
      replace ht:=lhd ht;replace hdl:=lhd hdl;replace sd:=lhd sd
      go_wp2_with (at_builtin;refine wpList_app (by rfl) _ _ rfl w0.heap.size _ _ rfl ho.out _ _ da rfl sd.out hpl.out hb.out.size ?_)
      intro v' w' hW2 hb4;have hb4:=lhd (hb.out.trans hb4);have hW2:=lhd hW2
      go_wp2_with fail
      go_roundw
      case rel=>exact⟨r+1,by omega,by go_num,by show OwnB _ _ _ _;rw[hst.out];simpa only [xaa] using hW2.out,hb4⟩
      case measure=>simp[intOf];omega
     have hr9:r=ts.length:=by omega
     subst hr9;have j3:¬(ts.length:Int)<(ts.length:Int):=by omega
     rw[xtl nlr] at ho
     go_wp2_with fail
     go_returns
     exact enc_ok hgd.out rfl ho.out hb.out
theorem zip_at (ns ds:List Bs) (k:Nat) (s d:Bs) (h1:ns[k]?=some s) (h2:ds[k]?=some d):(ns.zip ds)[k]?=some (s,d):=by
 exact List.getElem?_zip_eq_some.2 ⟨h1,h2⟩
theorem tagS_one (s d:Bs):tagS [(s,d)]=[Spec.val (.string (strB s)),Spec.byt d]:=rfl
theorem message_any (B:Nat) (u u2:Value) (ns ds:List Bs) (w:World) (hu:SeesR w B u 1 ns.length (nameS ns)) (hu2:SeesL w B u2 ds) (hB:B<=w.heap.size) (hl:ns.length=ds.length) (hn:ns.length<=16) (hd:(dataT (ns.zip ds)).length<=1048576) :
 Calls prog 72 #[u,u2] w (EncP (ns.zip ds) w):=by
 obtain⟨A,c,rfl,-,-⟩:=hu.mk_;obtain⟨A2,c2,rfl,-,-⟩:=hu2.mk_;replace hu:=lhd hu;replace hu2:=lhd hu2;replace hd:=lhd hd;have hz:Hid ((ns.zip ds).length=ns.length):=by show _=_;rw[List.length_zip];omega
 have hl2:=lhd hl;rw[<-hl];clear hl
 go_enter func72,ntmps72
 go_wp2_with fail
 go_loopw [6,11] (fun r t wr=>∃k:Nat,k<=ns.length/\t=.int .i64 k/\Hid (OwnR wr w.heap.size 173 r 2 k (tagS ((ns.zip ds).take k)))/\Hid (Below w.heap.size w wr)) (fun _ t _=>ns.length - (intOf t).toNat)
 case atStart=>exact⟨0,by omega,rfl,OwnR.nil _ _ _ _,Below.refl _ _⟩
 case round=>
  obtain⟨k,hk,rfl,ho,hb⟩:=hrel;obtain⟨Ar,cr,rfl,-,-⟩:=ho.out.sees.mk_
  by_cases hlt:k<ns.length
  ·obtain⟨s,hs⟩:∃s,ns[k]?=some s:=⟨ns[k],xge hlt⟩
   have hk2:k<ds.length:=by have:=hl2.out;omega
   obtain⟨b,o,rfl,hbB,y0⟩:=name_at (hu.out.below (hb.out.mono hB)) k s hs;obtain⟨b2,o2,rfl,hbB2,hds⟩:=(hu2.out.below (hb.out.mono hB)).at_ (by omega);obtain⟨A',c',y1,-,-,sd⟩:=hds k hk2;have hdk:ds[k]?=some (ds.getD k []):=by rw[xgd,xge hk2];rfl
   have hstep:Hid ((ns.zip ds).take (k+1)=(ns.zip ds).take k++[(s,ds.getD k [])]):=take_one _ _ _ (zip_at ns ds k s _ hs hdk);generalize ds.getD k []=da at *;have i0:(k:Int)<(ns.length:Int):=by omega
   have hel:=EltS.of_old (s:=.byt da) (v:=.slice Ar k cr) (show FitS wr B (.slice A' da.length c') (.byt da) from sd) (Nat.le_trans hB hb.out.size) (fun j hj=>Nat.le_trans hB (ho.out.lt j hj).1);have hst1:(Value.string (strB s)).oneCell'=true:=rfl;generalize hS1:strB s=S1 at *;have hal:=balloc wr (.cells #[.string S1,.slice A' da.length c'] 173);have hrec:Hid (Sees (wr.alloc (.cells #[.string S1,.slice A' da.length c'] 173)) (wr.heap.size+1) (.slice (some ⟨wr.heap.size,0,none⟩) 1 1) 2 1 [.string S1,.slice A' da.length c']):=rec_lit wr 173 [.string S1,.slice A' da.length c'];have ho2:=lhd (ho.out.below hal);have hel2:=lhd (two_elt hst1 (hel.below hal));have hb3:=lhd (bgo hb.out hal);generalize hacc:(ns.zip ds).take k=acc at *;obtain⟨ti,hti,htz,hts',htby⟩:=info_parts tag_info;replace hti:=lhd hti;replace htz:=lhd htz;replace hts':=lhd hts';replace htby:=lhd htby;replace hS1:=lhd hS1;replace hacc:=lhd hacc;replace hs:=lhd hs;replace hdk:=lhd hdk;clear hal hel sd hds
   go_wp2_with (at_builtin;refine wpList_appR (by rfl) _ _ 174 173 underlying174 rfl ti _ 2 40 hti.out htz.out hts'.out htby.out rfl (by omega) (by omega) w.heap.size _ k _ rfl ho2.out _ _ 1 _ [.val (.string S1),.byt da] rfl hrec.out rfl hel2.out (by omega) hb3.out.size ?_)
   intro v' w' hW2 hb4;have hW2:=lhd hW2;have hb4:=lhd (hb3.out.trans hb4)
   go_wp2_with fail
   go_roundw
   case rel=>exact⟨k+1,by omega,by go_num,by show OwnR _ _ _ _ _ _ _;rw[hstep.out,tagS_append,tagS_one,hS1.out];exact hW2.out,hb4⟩
   case measure=>simp[intOf];omega
  obtain rfl:k=ns.length:=by omega
  have i0:¬(ns.length:Int)<(ns.length:Int):=by omega
  rw[xtl (Nat.le_of_eq hz.out)] at ho;have hs9:SeesR wr wr.heap.size (.slice Ar ns.length cr) 2 (ns.zip ds).length (tagS (ns.zip ds)):=by rw[hz.out];exact ho.out.sees
  have hen:=lhd (encode_any wr.heap.size _ (ns.zip ds) wr hs9 nlr (by have:=hz.out;omega) hd.out);clear hs9
  go_wp2_with fail
  refine hen.out.mono ?_;rintro e w6 ⟨v6,rfl,o6,hb6⟩;obtain⟨A6,c6,rfl,-,-⟩:=o6.sees.mk_;dsimp only
  go_wp2_with fail
  go_returns
  exact⟨_,rfl,o6.mono hb.out.size,bgo hb.out hb6⟩
end Go.Proofs.YtjgepckncogdaaaGreat
