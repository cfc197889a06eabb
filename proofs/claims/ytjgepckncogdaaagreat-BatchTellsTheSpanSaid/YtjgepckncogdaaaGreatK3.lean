/- Contracts of functions, walks, plain facts. Conditions: those of each theorem. -/
import Derived.Shelf.Bytes.SlSmallAll
import Derived.Lib.AppendZeros
import Derived.Lib.SmallJoins
import Derived.Test.YtjgepckncogdaaaGreatK1
set_option linter.unusedVariables false
set_option linter.unusedSimpArgs false
set_option maxRecDepth 100000
set_option maxHeartbeats 16000000
namespace Go.Proofs.YtjgepckncogdaaaGreat
open Go Go.RowKit _root_.Go.Proofs.Tryz
theorem wp_fresh {P:Program} {code:Code} {Q:Exit->Act->World->Prop} {a:Act} {w:World} {o:Obj} (R:World->Prop) (h1:R (w.alloc o)) (h2:∀W,R W->Code.wp P code Q a W):Code.wp P code Q a (w.alloc o):=h2 _ h1
theorem bgo {a b c:World} (h1:Below a.heap.size a b) (h2:Below b.heap.size b c):Below a.heap.size a c:=h1.trans (h2.mono h1.size)
theorem balloc (w:World) (o:Obj):Below w.heap.size w (w.alloc o):=(Below.refl _ _).alloc nlr _
theorem bdrew (w:World):Below w.heap.size w w.drew:=(Below.refl _ _).drew
def Box (w:World) (g:Nat) (T:TypeId) (xs:List Value):Prop:=w.heap[g]?=some (.cells xs.toArray T)
theorem Box.new (w:World) (T:TypeId) (xs:List Value):Box (w.alloc (.cells xs.toArray T)) w.heap.size T xs:=heap_alloc_new w _
theorem Box.lt {w:World} {g:Nat} {T:TypeId} {xs:List Value} (h:Box w g T xs):g<w.heap.size:=(Array.getElem?_eq_some_iff.1 h).1
theorem Box.below {w w':World} {g:Nat} {T:TypeId} {xs:List Value} (h:Box w g T xs) (hb:Below w.heap.size w w'):Box w' g T xs:=(hb.block g h.lt).trans h
theorem Box.cell {w:World} {g:Nat} {T:TypeId} {xs:List Value} (h:Box w g T xs) (j:Nat):w.cell? ⟨g,j,none⟩=xs[j]?:=block_cell h j
theorem Box.set {w:World} {g:Nat} {T:TypeId} {xs:List Value} (h:Box w g T xs) (j:Nat) (v:Value):Box (w.setCell ⟨g,j,none⟩ v) g T (xs.set j v):=by
 have:=set_block w g j v h
 simpa [Box] using this
theorem Box.frozen {w:World} {g:Nat} {T:TypeId} {xs:List Value} (h:Box w g T xs) (j:Nat):w.frozen? ⟨g,j,none⟩=false:=frozen_of_row w g j _ _ h
def vb (l:Bs):List Value:=l.map byV
theorem vb_len (l:Bs):(vb l).length=l.length:=by simp[vb]
theorem vb_get (l:Bs) (j:Nat):(vb l)[j]?=l[j]?.map byV:=by simp[vb]
theorem vb_append (a b:Bs):vb (a++b)=vb a++vb b:=by simp[vb]
theorem vb_one (l:Bs):∀u∈vb l,u.oneCell'=true:=by
 intro u hu;obtain⟨x,_,rfl⟩:=List.mem_map.1 hu
 rfl
theorem vb_rep (n:Nat):List.replicate n (Value.int .u8 0)=vb (List.replicate n 0):=by simp[vb,byV]
theorem vb_set (l:Bs) (j:Nat) (x:UInt8):(vb l).set j (byV x)=vb (l.set j x):=by simp[vb,List.map_set]
theorem byV_nat (n:Nat):Value.int .u8 ((n:Int) % 256)=byV (UInt8.ofNat n):=by
 unfold byV;simp
def SeesB (w:World) (B:Nat) (v:Value) (l:Bs):Prop:=Sees w B v 1 l.length (vb l)
def OwnB (w:World) (base:Nat) (v:Value) (l:Bs):Prop:=w.ownsRow base 5 1 v l.length (vb l)
def Gives (l:Bs) (w:World) (e:Ending) (w':World):Prop:=∃v,e=.returned v/\OwnB w' w.heap.size v l/\Below w.heap.size w w'
theorem OwnB.sees {w:World} {base:Nat} {v:Value} {l:Bs} (h:OwnB w base v l):SeesB w w.heap.size v l:=Sees.of_own h
theorem OwnB.below {w w':World} {base:Nat} {v:Value} {l:Bs} (h:OwnB w base v l) (hb:Below w.heap.size w w'):OwnB w' base v l:=own_below h hb
theorem OwnB.mono {w:World} {base base':Nat} {v:Value} {l:Bs} (h:OwnB w base v l) (hb:base'<=base):OwnB w base' v l:=by
 refine⟨h.1,?_⟩;rcases h.2 with h|⟨g,cap,cur,h1,h2,h3⟩
 ·exact .inl h
 exact .inr ⟨g,cap,cur,h1,by omega,h3⟩
section
variable {w w':World} {B B':Nat} {v:Value} {l:Bs}
theorem SeesB.nil (w:World) (B:Nat):SeesB w B (.slice none 0 0) []:=Sees.nil w B 1
theorem SeesB.mk_ (h:SeesB w B v l):∃A c,v=.slice A l.length c/\l.length<=c/\c<=maxLen:=Sees.mk_ h
theorem SeesB.at_ {A:Option Addr} {n c:Nat} (h:SeesB w B (.slice A n c) l) (hn:0<l.length):∃b o,A=some ⟨b,o,none⟩/\b<B/\∀j,j<l.length->w.cell? ⟨b,o+j,none⟩=some (byV (l.getD j 0)):=by
 obtain⟨_,A',c',hv,h1,h2,h3⟩:=h;injection hv with e1 e2 e3;subst e1;obtain⟨b,o,e,hb,hc⟩:=h3 hn;refine⟨b,o,e,hb,fun j hj=>hc j _ ?_⟩;rw[vb_get,xge hj,Option.map_some,xgd,xge hj]
 rfl
theorem SeesB.below (h:SeesB w B v l) (hb:Below B w w'):SeesB w' B v l:=Sees.below h hb
theorem SeesB.more (h:SeesB w B v l) (hB:B<=B'):SeesB w B' v l:=Sees.more h hB
theorem SeesB.cut {A:Option Addr} {n c a b:Nat} (h:SeesB w B (.slice A n c) l) (hab:a<=b) (hb:b<=l.length) :
 SeesB w B (.slice (cutA A c a 1) (b - a) (c - a)) ((l.drop a).take (b - a)):=by
 have hn:n=l.length:=by
  obtain⟨_,A',c',hv,_⟩:=h;injection hv
 subst hn
 have:=Sees.cut (l:=a) (h':=b) h hab hb
 rw[Nat.mul_one,Nat.mul_one] at this;unfold SeesB;rw[show ((l.drop a).take (b - a)).length=b - a from by rw[xlt,xld];omega,show vb ((l.drop a).take (b - a))=((vb l).drop a).take (b - a) from by simp[vb,List.map_drop,List.map_take]];exact this
end
theorem putB_add (m k v:Nat):putB (m+k) v=putB m (v / 256 ^ k)++putB k v:=by
 induction k generalizing v with
 | zero=>simp[putB]
 | succ k ih=>rw[<-Nat.add_assoc,putB,ih,putB,xaa,Nat.div_div_eq_div_mul,Nat.pow_succ,Nat.mul_comm 256]
theorem putB_zero (n:Nat):putB n 0=List.replicate n 0:=by
 induction n with
 | zero=>rfl
 | succ n ih=>rw[putB,ih,List.replicate_succ'];rfl
def tailB (n k v:Nat):Bs:=List.replicate (n - k) 0++putB k v
theorem tailB_len (n k v:Nat) (h:k<=n):(tailB n k v).length=n:=by simp[tailB,putB_len];omega
theorem tailB_step (n k v:Nat) (h:k<n):(tailB n k v).set (n - 1 - k) (UInt8.ofNat (v / 256 ^ k))=tailB n (k+1) v:=by
 unfold tailB;obtain⟨m,rfl⟩:∃m,n=m+1+k:=⟨n - 1 - k,by omega⟩
 rw[show m+1+k - k=m+1 from by omega,show m+1+k - 1 - k=m from by omega,show m+1+k - (k+1)=m from by omega,Nat.add_comm k 1,putB_add 1 k,List.replicate_succ',xaa,List.set_append_right _ _ (by simp)];simp[putB]
theorem tailB_end (n k v:Nat) (h:k<=n) (h0:k=n\/v / 256 ^ k=0):tailB n k v=putB n v:=by
 unfold tailB;rcases h0 with rfl|h0
 ·simp
 obtain⟨m,rfl⟩:∃m,n=m+k:=⟨n - k,by omega⟩
 rw[putB_add,h0,putB_zero,Nat.add_sub_cancel]
def strB (l:Bs):ByteArray:=⟨l.toArray⟩
theorem strB_toList (l:Bs):(strB l).toList=l:=by
 rw[ByteArray.toList_eq];rfl
theorem SeesB.string {w:World} {B:Nat} {A:Option Addr} {n c:Nat} {l:Bs} (h:SeesB w B (.slice A n c) l) :
 (convert 25 9 (.slice A n c)).run prog w=.ok (.string (strB l)) w:=by
 have hn:n=l.length:=by
  obtain⟨_,A',c',hv,_⟩:=h;injection hv
 subst hn;rcases Nat.eq_zero_or_pos l.length with h0|h0
 ·have:l=[]:=List.eq_nil_of_length_eq_zero h0
  subst this;exact Go.Proofs.run_convert_bytes_zero w 25 5 underlying25 underlying5 A c 9 underlying9
 obtain⟨b,o,rfl,_,hc⟩:=h.at_ h0
 have:=run_convert_bytes_arg (P:=prog) w 25 5 underlying25 underlying5 b o l.length c (l.map fun x=>(x.toNat:Int)) (by simp) (fun i hi=>by
  rw[hc i hi,byV];simp[xgd,xge hi]) 9 underlying9
 rw[this];simp[strOfNums,strB,List.map_map,Function.comp_def]
def valB (l:Bs):Nat:=l.foldl (fun v x=>v * 256+x.toNat) 0
theorem foldl_val (l:Bs) (v:Nat):l.foldl (fun v x=>v * 256+x.toNat) v=v * 256 ^ l.length+valB l:=by
 unfold valB
 induction l generalizing v with
 | nil=>simp
 | cons x l ih=>
   rw[List.foldl_cons,List.foldl_cons,ih,ih (0 * 256+x.toNat),xlc,Nat.pow_succ,Nat.add_mul,Nat.mul_assoc,Nat.mul_comm 256,Nat.zero_mul,Nat.zero_add,Nat.add_assoc]
theorem foldl_get (l:Bs) (v:Nat):l.foldl (fun v x=>(v * 256+x.toNat) % 18446744073709551616) v % 18446744073709551616=(v * 256 ^ l.length+valB l) % 18446744073709551616:=by
 rw[<-foldl_val]
 induction l generalizing v with
 | nil=>rfl
 | cons x l ih=>
   rw[List.foldl_cons,List.foldl_cons,ih,foldl_val,foldl_val,Nat.add_mod,Nat.mul_mod,Nat.mod_mod,<-Nat.mul_mod,<-Nat.add_mod]
theorem getB_lt (l:Bs):getB l<18446744073709551616:=by
 unfold getB;rcases List.eq_nil_or_concat l with rfl|⟨l,x,rfl⟩
 ·decide
 rw[List.concat_eq_append,List.foldl_append];exact Nat.mod_lt _ (by decide)
theorem getB_val (l:Bs):getB l=valB l % 18446744073709551616:=by
 have:=foldl_get l 0
 rw[Nat.zero_mul,Nat.zero_add] at this;rw[<-this];exact (Nat.mod_eq_of_lt (getB_lt l)).symm
theorem getB_snoc (l:Bs) (x:UInt8):getB (l++[x])=(getB l * 256+x.toNat) % 18446744073709551616:=by simp[getB]
theorem valB_append (a b:Bs):valB (a++b)=valB a * 256 ^ b.length+valB b:=by
 rw[<-foldl_val];simp[valB]
theorem getB_last (l:Bs):getB (l.drop (l.length - 8))=getB l:=by
 by_cases h:l.length<=8
 ·rw[Nat.sub_eq_zero_of_le h,List.drop_zero]
 rw[getB_val,getB_val]
 conv=>rhs;rw[<-List.take_append_drop (l.length - 8) l,valB_append,xld,show l.length - (l.length - 8)=8 from by omega]
 rw[show 256 ^ 8=18446744073709551616 from by decide,Nat.mul_comm,Nat.mul_add_mod]
theorem valB_put (n v:Nat):valB (putB n v)=v % 256 ^ n:=by
 induction n generalizing v with
 | zero=>simp[putB,valB,Nat.mod_one]
 | succ n ih=>
   rw[putB,valB_append,ih];simp only[xlc,List.length_nil,valB,List.foldl_cons,List.foldl_nil,Nat.zero_mul,Nat.zero_add,UInt8.toNat_ofNat',Nat.pow_one];rw[show 256 ^ (n+1)=256 * 256 ^ n from by rw[Nat.pow_succ,Nat.mul_comm],Nat.mod_mul (x:=v) (a:=256) (b:=256 ^ n),show 2 ^ 8=256 from rfl,Nat.mul_comm 256]
   omega
theorem get_step (v:Nat) (x:UInt8):bits .or .u64 ((v:Int) * 256 % 18446744073709551616) (x.toNat:Int)=(((v * 256+x.toNat) % 18446744073709551616:Nat):Int):=by
 have hx:=x.toNat_lt;rw[show (v:Int) * 256 % 18446744073709551616=((v * 256 % 18446744073709551616:Nat):Int) from by omega,Go.bits_or_u64_nat _ _ (Nat.mod_lt _ (by decide)) (by omega)];rw[show v * 256 % 18446744073709551616=2 ^ 8 * (v % 72057594037927936) from by omega,<-Nat.two_pow_add_eq_or_of_lt hx]
 omega
theorem get_step' (v:Nat) (x:UInt8):bits .or .u64 (IntKind.u64.wrap ((v:Int) * 256)) (IntKind.u64.wrap (x.toNat:Int))=(((v * 256+x.toNat) % 18446744073709551616:Nat):Int):=by
 have hx:=x.toNat_lt;rw[IntKind.wrap_u64,IntKind.wrap_u64,show (x.toNat:Int) % 18446744073709551616=(x.toNat:Int) from by omega];exact get_step v x
attribute [local go_sem ↓] Go.wp_at_zero Go.wp_at_succ
theorem byte_info:(prog.info? 5).map (fun i=>(i.zero,i.size,i.bytes))=some (some (.int .u8 0),1,1):=by kernel_rfl
theorem make_bytes (n:Nat) (hn:n<=140737488355328) (w:World):(Instr.makeSlice 25 (.int .i64 (n:Int)) (.int .i64 (n:Int))).run prog w=.ok (.slice (some ⟨w.heap.size,0,none⟩) n n) (w.alloc (.cells (vb (List.replicate n 0)).toArray 5)):=by
 obtain⟨i,hi,hz,hs,hb⟩:=info_parts byte_info;have h:=run_make (P:=prog) w 25 5 i (.int .u8 0) underlying25 hi hz .i64 .i64 n n (by omega) (by omega) (by rw[hb];omega) (by omega);rw[h,hs];simp only[xnc,Nat.mul_one];rw[<-vb_rep,<-toList_madeCells_one]
 rfl
theorem own_made (w:World) (l:Bs) (hl:l.length<=maxLen) (base:Nat) (hb:base<=w.heap.size):OwnB (w.alloc (.cells (vb l).toArray 5)) base (.slice (some ⟨w.heap.size,0,none⟩) l.length l.length) l:=by
 have h:=World.ownsRow_lit (base:=base) (e:=5) (size:=1) w (vb l).toArray l.length hb hl (by simp[vb_len]);exact h
theorem put_any (v n:Nat) (hn:n<=64) (hv:v<18446744073709551616) (w:World) :
 Calls prog 74 #[.int .u64 (v:Int),.int .i64 (n:Int)] w (Gives (putB n v) w):=by
 have hmk:=make_bytes n (by omega);have n0:¬((n:Int)<0):=by omega
 have n1:¬((64:Int)<(n:Int)):=by omega
 go_enter func74,ntmps74
 go_wp2_with fail
 refine wp_fresh (fun W=>OwnB W w.heap.size (.slice (some ⟨w.heap.size,0,none⟩) n n) (tailB n 0 v)/\Below w.heap.size w W) ⟨?_,(Below.refl _ _).alloc nlr _⟩ ?_
 ·have:=own_made w (List.replicate n 0) (by rw[List.length_replicate];unfold maxLen;omega) w.heap.size nlr
  rw[List.length_replicate] at this
  simpa [tailB,putB] using this
 rintro W0 ⟨hW,hbw⟩;clear hmk
 go_loopw [0,6] (fun x i wr=>∃k:Nat,k<=n/\x=.int .u64 ((v / 256 ^ k:Nat):Int)/\i=.int .i64 ((n:Int) - 1 - k)/\OwnB wr w.heap.size (.slice (some ⟨w.heap.size,0,none⟩) n n) (tailB n k v)/\Below w.heap.size w wr) (fun _ i _=>(intOf i+1).toNat)
 case atStart=>exact⟨0,by omega,by simp,by go_num,hW,hbw⟩
 case round=>
  clear hW hbw;obtain⟨k,hk,rfl,rfl,hW,hbw⟩:=hrel;have hlen:=tailB_len n k v hk;have hstep:=tailB_step n k v;have hend:=tailB_end n k v hk;have hnx:v / 256 ^ (k+1)=v / 256 ^ k / 256:=by rw[Nat.pow_succ,Nat.div_div_eq_div_mul]
  have hu:v / 256 ^ k<18446744073709551616:=Nat.lt_of_le_of_lt (Nat.div_le_self _ _) hv;have HX:=lhd hnx;have HS:=lhd hstep;have HE:=lhd hend;clear hnx hstep hend;generalize v / 256 ^ k=u at *;generalize hl:tailB n k v=l at *
  by_cases hk2:k<n
  ·by_cases h0:u=0
   ·subst h0
    have i0:(0:Int)<=(n:Int) - 1 - k:=by omega
    have he:=lhd (HE.out (.inr rfl));clear HE
    go_wp2_with fail
    go_ret
    refine⟨.slice (some ⟨w.heap.size,0,none⟩) n n,rfl,?_,hbw⟩;rw[<-he.out];exact hW
   obtain⟨j,hj⟩:∃j:Nat,(n:Int) - 1 - k=(j:Int):=⟨n - 1 - k,by omega⟩
   have hj2:n - 1 - k=j:=by omega
   rw[hj];have i0:(0:Int)<=(j:Int):=by omega
   have i1:(j:Int)<(n:Int):=by omega
   have u0:(0:Int)<(u:Int):=by omega
   unfold OwnB at hW;rw[hlen] at hW;have hc:∃z:UInt8,wr.cell? ⟨w.heap.size,j,none⟩=some (.int .u8 (z.toNat:Int)):=by
    have:=hW.cellAt j (by omega)
    rw[vb_get,xge (by omega),Option.map_some] at this;exact⟨_,this⟩
   obtain⟨z,hc⟩:=hc;have HL:=lhd hlen;have HW:=lhd hW;have HJ:=lhd hj2;clear hj hl hlen hW hj2 hu n0 n1 hv h0;have hf:=HW.out.frozenAt j
   go_wp2_with fail
   go_roundw
   case rel=>
    refine⟨k+1,by omega,congrArg (Value.int .u64) (by rw[HX.out];omega),congrArg (Value.int .i64) (by have:=HJ.out;omega),?_,hbw.setCell nlr _⟩;rw[byV_nat,<-HS.out hk2,HJ.out];have h:=(HW.out.stored j (byV (UInt8.ofNat u))).1;rw[vb_set] at h;unfold OwnB;rw[List.length_set,HL.out];exact h
   case measure=>simp[intOf]
  obtain rfl:k=n:=by omega
  have i0:(k:Int) - 1 - k<0:=by omega
  have he:=lhd (HE.out (.inl rfl));clear HE
  go_wp2_with fail
  go_ret
  refine⟨.slice (some ⟨w.heap.size,0,none⟩) k k,rfl,?_,hbw⟩;rw[<-he.out];exact hW
theorem rput_any (v n:Nat) (hn:n<=64) (hv:v<18446744073709551616) (w:World) :
 Calls prog 121 #[.int .u64 (v:Int),.int .i64 (n:Int)] w (Gives (putB n v) w):=by
 have hmk:=make_bytes n (by omega);have n0:¬((n:Int)<0):=by omega
 have n1:¬((64:Int)<(n:Int)):=by omega
 go_enter func121,ntmps121
 go_wp2_with fail
 refine wp_fresh (fun W=>OwnB W w.heap.size (.slice (some ⟨w.heap.size,0,none⟩) n n) (tailB n 0 v)/\Below w.heap.size w W) ⟨?_,(Below.refl _ _).alloc nlr _⟩ ?_
 ·have:=own_made w (List.replicate n 0) (by rw[List.length_replicate];unfold maxLen;omega) w.heap.size nlr
  rw[List.length_replicate] at this
  simpa [tailB,putB] using this
 rintro W0 ⟨hW,hbw⟩;clear hmk
 go_loopw [0,6] (fun x i wr=>∃k:Nat,k<=n/\x=.int .u64 ((v / 256 ^ k:Nat):Int)/\i=.int .i64 ((n:Int) - 1 - k)/\OwnB wr w.heap.size (.slice (some ⟨w.heap.size,0,none⟩) n n) (tailB n k v)/\Below w.heap.size w wr) (fun _ i _=>(intOf i+1).toNat)
 case atStart=>exact⟨0,by omega,by simp,by go_num,hW,hbw⟩
 case round=>
  clear hW hbw;obtain⟨k,hk,rfl,rfl,hW,hbw⟩:=hrel;have hlen:=tailB_len n k v hk;have hstep:=tailB_step n k v;have hend:=tailB_end n k v hk;have hnx:v / 256 ^ (k+1)=v / 256 ^ k / 256:=by rw[Nat.pow_succ,Nat.div_div_eq_div_mul]
  have hu:v / 256 ^ k<18446744073709551616:=Nat.lt_of_le_of_lt (Nat.div_le_self _ _) hv;have HX:=lhd hnx;have HS:=lhd hstep;have HE:=lhd hend;clear hnx hstep hend;generalize v / 256 ^ k=u at *;generalize hl:tailB n k v=l at *
  by_cases hk2:k<n
  ·obtain⟨j,hj⟩:∃j:Nat,(n:Int) - 1 - k=(j:Int):=⟨n - 1 - k,by omega⟩
   have hj2:n - 1 - k=j:=by omega
   rw[hj];have i0:(0:Int)<=(j:Int):=by omega
   have i1:(j:Int)<(n:Int):=by omega
   unfold OwnB at hW;rw[hlen] at hW;have hc:∃z:UInt8,wr.cell? ⟨w.heap.size,j,none⟩=some (.int .u8 (z.toNat:Int)):=by
    have:=hW.cellAt j (by omega)
    rw[vb_get,xge (by omega),Option.map_some] at this;exact⟨_,this⟩
   obtain⟨z,hc⟩:=hc;have HL:=lhd hlen;have HW:=lhd hW;have HJ:=lhd hj2;clear hj hl hlen hW hj2 hu n0 n1 hv;have hf:=HW.out.frozenAt j
   go_wp2_with fail
   go_roundw
   case rel=>
    refine⟨k+1,by omega,congrArg (Value.int .u64) (by rw[HX.out];omega),congrArg (Value.int .i64) (by have:=HJ.out;omega),?_,hbw.setCell nlr _⟩;rw[byV_nat,<-HS.out hk2,HJ.out];have h:=(HW.out.stored j (byV (UInt8.ofNat u))).1;rw[vb_set] at h;unfold OwnB;rw[List.length_set,HL.out];exact h
   case measure=>simp[intOf]
  obtain rfl:k=n:=by omega
  have i0:(k:Int) - 1 - k<0:=by omega
  have he:=lhd (HE.out (.inl rfl));clear HE
  go_wp2_with fail
  go_ret
  refine⟨.slice (some ⟨w.heap.size,0,none⟩) k k,rfl,?_,hbw⟩;rw[<-he.out];exact hW
theorem rsame_any (B B':Nat) (u v:Value) (a b:Bs) (w:World) (hu:SeesB w B u a) (hv:SeesB w B' v b) :
 Calls prog 26 #[u,v] w fun e w'=>e=.returned (.bool (a == b))/\w'=w:=by
 obtain⟨A,c,rfl,_,_⟩:=hu.mk_;obtain⟨A',c',rfl,_,_⟩:=hv.mk_;have h1:=hu.string;have h2:=hv.string;clear hu hv
 go_enter func26,ntmps26
 go_wp2
 go_ret
 exact⟨ret_bool (by rw[strB_toList,strB_toList]),rfl⟩
theorem rget_any (B:Nat) (u:Value) (l:Bs) (w:World) (hu:SeesB w B u l) :
 Calls prog 230 #[u] w fun e w'=>e=.returned (.int .u64 (getB l:Int))/\w'=w:=by
 obtain⟨A,c,rfl,hc1,hc2⟩:=hu.mk_;have hm:l.length<=9223372036854775807:=by unfold maxLen at hc2;omega
 go_enter func230,ntmps230
 go_wp2_with fail
 go_loopw [3,4] (fun x i wr=>∃k:Nat,k<=l.length/\x=.int .u64 (getB (l.take k):Int)/\i=.int .i64 k/\wr=w) (fun _ i _=>l.length - (intOf i).toNat)
 case atStart=>exact⟨0,by omega,rfl,rfl,rfl⟩
 case round=>
  obtain⟨k,hk,rfl,rfl,rfl⟩:=hrel;have hnext:k<l.length->getB (l.take (k+1))=(getB (l.take k) * 256+(l.getD k 0).toNat) % 18446744073709551616:=fun h=>by
   rw[List.take_succ_eq_append_getElem h,getB_snoc,xgd,xge h];rfl
  have hall:¬k<l.length->getB (l.take k)=getB l:=fun h=>by rw[xtl (by omega)]
  have HN:=lhd hnext;have HA:=lhd hall;clear hnext hall;generalize getB (l.take k)=v at *
  by_cases hlt:k<l.length
  ·obtain⟨b,o,rfl,hb,hcell⟩:=hu.at_ (by omega)
   have x0:=hcell k hlt;have hst:=lhd (get_step' v (l.getD k 0));have hn:=HN.out hlt;have HN2:=lhd hn;clear hn HN;unfold byV at x0;generalize l.getD k 0=x at x0 hst HN2;clear hcell hu;have i0:(0:Int)<=(k:Int):=by omega
   have i1:(k:Int)<(l.length:Int):=by omega
   go_wp2_with fail
   go_roundw
   case rel=>exact⟨k+1,by omega,by rw[hst.out,HN2.out],by go_num,trivial⟩
   case measure=>simp[intOf];omega
  have he:=lhd (HA.out hlt)
  go_wp2_with fail
  go_ret
  exact⟨ret_int (by rw[he.out]),rfl⟩
theorem byte_size (w:World):(sizeOf 5).run prog w=.ok 1 w:=by kernel_rfl
theorem get_any (B:Nat) (u:Value) (l:Bs) (w:World) (hu:SeesB w B u l) :
 Calls prog 147 #[u] w fun e w'=>e=.returned (.int .u64 (getB l:Int))/\w'=w:=by
 obtain⟨A,c,rfl,hc1,hc2⟩:=hu.mk_;have hm:l.length<=9223372036854775807:=by unfold maxLen at hc2;omega
 have hcut:=SeesB.cut (a:=l.length - 8) (b:=l.length) hu (by omega) nlr;have hrun:=run_cut_from (P:=prog) 25 underlying25 1 byte_size A l.length c .i64 (max 0 ((l.length:Int) - 8)) (by omega) (by omega);rw[show (max 0 ((l.length:Int) - 8)).toNat=l.length - 8 from by omega] at hrun;rw[xtl (by rw[xld];omega)] at hcut;have hd:(l.drop (l.length - 8)).length=l.length - (l.length - 8):=xld;have hlast:=lhd (getB_last l);have hm2:(l.drop (l.length - 8)).length<=9223372036854775807:=by omega
 generalize cutA A c (l.length - 8) 1=A2 at *;generalize c - (l.length - 8)=c2 at *;generalize l.drop (l.length - 8)=l2 at *;rw[<-hd] at hrun hcut;clear hd hu
 go_enter func147,ntmps147
 go_wp2_with fail
 go_loopw [3,5,13] (fun x _ i wr=>∃k:Nat,k<=l2.length/\x=.int .u64 (getB (l2.take k):Int)/\i=.int .i64 k/\wr=w) (fun _ _ i _=>l2.length - (intOf i).toNat)
 case atStart=>exact⟨0,by omega,rfl,rfl,rfl⟩
 case round=>
  obtain⟨k,hk,rfl,rfl,rfl⟩:=hrel;have hnext:k<l2.length->getB (l2.take (k+1))=(getB (l2.take k) * 256+(l2.getD k 0).toNat) % 18446744073709551616:=fun h=>by
   rw[List.take_succ_eq_append_getElem h,getB_snoc,xgd,xge h];rfl
  have hall:¬k<l2.length->getB (l2.take k)=getB l2:=fun h=>by rw[xtl (by omega)]
  have HN:=lhd hnext;have HA:=lhd hall;clear hnext hall;generalize getB (l2.take k)=v at *
  by_cases hlt:k<l2.length
  ·obtain⟨b,o,rfl,hb,hcell⟩:=hcut.at_ (by omega)
   have x0:=hcell k hlt;have hst:=lhd (get_step' v (l2.getD k 0));have hn:=HN.out hlt;have HN2:=lhd hn;clear hn HN hrun;unfold byV at x0;generalize l2.getD k 0=x at x0 hst HN2;clear hcell hcut;have i0:(0:Int)<=(k:Int):=by omega
   have i1:(k:Int)<(l2.length:Int):=by omega
   go_wp2_with fail
   go_roundw
   case rel=>exact⟨k+1,by omega,by rw[hst.out,HN2.out],by go_num,trivial⟩
   case measure=>simp[intOf];omega
  have he:=lhd (HA.out hlt)
  go_wp2_with fail
  go_ret
  exact⟨ret_int (by rw[he.out,hlast.out]),rfl⟩
attribute [local go_sem ↓] Go.wp_at_zero Go.wp_at_succ
theorem zeroCells_size (n:Nat):(Builtin.zeroCells (Value.int .u8 0).cells n).size=n:=by simp[Builtin.zeroCells,Value.cells]
theorem grow_any (n:Nat) (hn:n<=140737488355328) (w:World) :
 Calls prog 212 #[.slice none 0 0,.int .i64 (n:Int)] w (Gives [] w):=by
 obtain⟨i,hi,hz,hs,hb⟩:=info_parts byte_info;have n0:¬((n:Int)<0):=by omega
 go_enter func212,ntmps212
 by_cases h0:n=0
 ·subst h0
  go_wp2_with fail
  go_ret
  exact⟨_,rfl,World.ownsRow_nil w _ _ _,Below.refl _ _⟩
 have h1:(0:Int)<(n:Int):=by omega
 have hr:=Lib.run_append_nil_zeros (P:=prog) w 25 3 25 5 i (.int .u8 0) .i64 .i64 underlying25 underlying3 hi hz n (by omega) (by omega) (by omega) (by rw[hb];omega)
 go_wp2_with (at_builtin;refine Lib.wpList_append_run _ rfl _ _ _ _ rfl _ _ rfl rfl _ _ hr ?_)
 go_ret
 refine⟨.slice (some ⟨w.heap.size,0,none⟩) 0 (grownCap w n 0 5),rfl,?_,((Below.refl _ _).alloc nlr _).drew⟩;have hg:=grownCap_ge w n 0 5;exact (World.ownsRow_made (base:=w.heap.size) (e:=5) (size:=1) w _ (grownCap w n 0 5) nlr (grownCap_le_maxLen w n 0 5 (by unfold maxLen;omega)) (by
  have h1:=zeroCells_size n;have h2:=zeroCells_size (grownCap w n 0 5 - n);rw[Array.size_append];simp only[Value.cells] at h1 h2 ⊢
  omega)).drew
theorem below_of_grown {w w':World} {base:Nat} {v:Value} {l:Bs} (h:OwnB w base v l) (hg:w.grownBy w' v.ownBlock) (hb:base<=w.heap.size):Below base w w':=by
 refine⟨hg.os,hg.tape,hg.output,hg.size,fun k hk=>hg.block k (by omega) (fun e=>?_)⟩
 have:=(h.lt k e.symm).1
 omega
theorem wpList_app {ops:Array Oper} {rest:List Oper} {o:Oper} {a:Act} {w:World} {Q:Exit->Act->World->Prop} (hgd:Region.wanted o (yielded ops a.tmps)=true) (s x:Operand)
 (ho:o.op=.call { callee:=.builtin .append,args:=#[s,x],argTypes:=#[25,25] })
 (base:Nat) (v:Value) (l:Bs) (hs:a.eval s=v) (hown:OwnB w base v l) (B:Nat) (u:Value) (m:Bs) (hx:a.eval x=u) (hr:SeesB w B u m)
 (hlen:l.length+m.length<=140737488355328) (hbase:base<=w.heap.size)
 (h:∀v' w',OwnB w' base v' (l++m)->Below base w w'->wpList prog ops Q rest (a.put o.dst v') w'):wpList prog ops Q (o :: rest) a w:=by
 obtain⟨i,hi,hz,hsz,hby⟩:=info_parts byte_info;refine wpList_append_sees hgd s x 25 ho base 5 i (.int .u8 0) 1 1 underlying25 hi hz hsz hby rfl (by omega) v l.length (vb l) hs hown B u m.length (vb m) hx hr (vb_one m) (by unfold maxLen;omega) (by omega) hbase ?_;intro v' w' h1 h2 h3;refine h v' w' ?_ (below_of_grown hown h2 hbase);unfold OwnB;rw[vb_append,xla];exact h1
def SeesL (w:World) (B:Nat) (u:Value) (ls:List Bs):Prop:=∃vs:List Value,Sees w B u 1 ls.length vs/\∀k,k<ls.length->∃v,vs[k]?=some v/\SeesB w B v (ls.getD k [])
theorem SeesL.mk_ {w:World} {B:Nat} {u:Value} {ls:List Bs} (h:SeesL w B u ls):∃A c,u=.slice A ls.length c/\ls.length<=c/\c<=maxLen:=by
 obtain⟨vs,h,_⟩:=h;exact h.mk_
theorem SeesL.at_ {w:World} {B:Nat} {A:Option Addr} {n c:Nat} {ls:List Bs} (h:SeesL w B (.slice A n c) ls) (hn:0<ls.length) :
 ∃b o,A=some ⟨b,o,none⟩/\b<B/\∀k,k<ls.length->∃A' c',w.cell? ⟨b,o+k,none⟩=some (.slice A' (ls.getD k []).length c')/\(ls.getD k []).length<=c'/\c'<=maxLen/\SeesB w B (.slice A' (ls.getD k []).length c') (ls.getD k []):=by
 obtain⟨vs,hs,hv⟩:=h;have hs':=hs;obtain⟨_,A',c',e,h1,h2,h3⟩:=hs;injection e with e1 e2 e3;subst e1 e2 e3;obtain⟨b,o,e,hb,hc⟩:=h3 hn;refine⟨b,o,e,hb,fun k hk=>?_⟩;obtain⟨v,hv1,hv2⟩:=hv k hk;obtain⟨A2,c2,rfl,g1,g2⟩:=hv2.mk_;exact⟨A2,c2,hc k _ hv1,g1,g2,hv2⟩
theorem SeesL.below {w w':World} {B:Nat} {u:Value} {ls:List Bs} (h:SeesL w B u ls) (hb:Below B w w'):SeesL w' B u ls:=by
 obtain⟨vs,hs,hv⟩:=h;exact⟨vs,hs.below hb,fun k hk=>by obtain⟨v,h1,h2⟩:=hv k hk;exact⟨v,h1,h2.below hb⟩⟩
def sumL (ls:List Bs) (k:Nat):Nat:=(ls.take k).flatten.length
theorem flat_step (ls:List Bs) (k:Nat) (h:k<ls.length):(ls.take (k+1)).flatten=(ls.take k).flatten++ls.getD k []:=by
 rw[List.take_succ_eq_append_getElem h,List.flatten_append,xgd,xge h];simp
theorem flat_le (ls:List Bs) (k:Nat):(ls.take k).flatten.length<=ls.flatten.length:=by
 conv=>rhs;rw[<-List.take_append_drop k ls,List.flatten_append,xla]
 omega
theorem slice_size (w:World):(sizeOf 25).run prog w=.ok 1 w:=by kernel_rfl
theorem rjoin_any (B:Nat) (u:Value) (ls:List Bs) (w:World) (hu:SeesL w B u ls) (hB:B<=w.heap.size) (hlen:ls.flatten.length<=1099511627776) :
 Calls prog 85 #[u] w (Gives ls.flatten w):=by
 obtain⟨A,c,rfl,hc1,hc2⟩:=hu.mk_;have hm:ls.length<=9223372036854775807:=by unfold maxLen at hc2;omega
 obtain⟨i,hi,hz,hs,hby⟩:=info_parts byte_info
 go_enter func85,ntmps85
 go_wp2_with fail
 refine wp_fresh (fun W=>OwnB W w.heap.size (.slice (some ⟨w.heap.size,0,none⟩) 0 0) []/\Below w.heap.size w W) ⟨own_made w [] (Nat.zero_le _) _ nlr,(Below.refl _ _).alloc nlr _⟩ ?_;rintro W0 ⟨hW,hbw⟩
 go_loopw [3,4] (fun r t wr=>∃k:Nat,k<=ls.length/\t=.int .i64 k/\OwnB wr w.heap.size r (ls.take k).flatten/\Below w.heap.size w wr) (fun _ t _=>ls.length - (intOf t).toNat)
 case atStart=>exact⟨0,by omega,rfl,hW,hbw⟩
 case round=>
  clear hW hbw;obtain⟨k,hk,rfl,hW,hbw⟩:=hrel;have hW:=lhd hW;have hbw:=lhd hbw
  by_cases hlt:k<ls.length
  ·obtain⟨b,o,rfl,hb,hcell⟩:=hu.at_ (by omega)
   obtain⟨A',c',hc,g1,g2,hsee⟩:=hcell k hlt;have x0:=(hbw.out.cell (p:=⟨b,o+k,none⟩) (by dsimp only;omega)).trans hc;have hsee2:=lhd (hsee.below (hbw.out.mono hB));have hst:=lhd (flat_step ls k hlt);have hle:=flat_le ls (k+1);rw[hst.out,xla] at hle;generalize ls.getD k []=m at *;clear hc hcell hu hsee;have i0:(0:Int)<=(k:Int):=by omega
   have i1:(k:Int)<(ls.length:Int):=by omega
   go_wp2_with (at_builtin;refine wpList_app (by rfl) _ _ rfl w.heap.size _ _ rfl hW.out B _ m rfl hsee2.out (by omega) hbw.out.size ?_)
   intro v' w' hW2 hb2;have hW2:=lhd hW2;have hb2:=lhd hb2
   go_wp2_with fail
   go_roundw
   case rel=>exact⟨k+1,by omega,by go_num,by rw[hst.out];exact hW2.out,hbw.out.trans hb2.out⟩
   case measure=>simp[intOf];omega
  have he:(ls.take k).flatten=ls.flatten:=by rw[xtl (by omega)]
  rw[he] at hW
  go_wp2_with fail
  go_ret
  exact⟨_,rfl,hW.out,hbw.out⟩
theorem sum_step (ls:List Bs) (k:Nat) (h:k<ls.length):sumL ls (k+1)=sumL ls k+(ls.getD k []).length:=by
 unfold sumL;rw[flat_step ls k h,xla]
theorem concat_any (B:Nat) (u:Value) (ls:List Bs) (w:World) (hu:SeesL w B u ls) (hB:B<=w.heap.size) (hlen:ls.flatten.length<=1099511627776) :
 Calls prog 142 #[u] w (Gives ls.flatten w):=by
 obtain⟨A,c,rfl,hc1,hc2⟩:=hu.mk_;have hm:ls.length<=9223372036854775807:=by unfold maxLen at hc2;omega
 go_enter func142,ntmps142
 go_wp2_with fail
 go_loopw [3,5,11] (fun s _ t wr=>∃k:Nat,k<=ls.length/\s=.int .i64 (sumL ls k:Int)/\t=.int .i64 k/\wr=w) (fun _ _ t _=>ls.length - (intOf t).toNat)
 case atStart=>exact⟨0,by omega,rfl,rfl,rfl⟩
 case round=>
  obtain⟨k,hk,rfl,rfl,rfl⟩:=hrel
  by_cases hlt:k<ls.length
  ·obtain⟨b,o,rfl,hb,hcell⟩:=hu.at_ (by omega)
   obtain⟨A',c',hc,g1,g2,hsee⟩:=hcell k hlt;have hst:=lhd (sum_step ls k hlt);have hle:=flat_le ls (k+1);have hd:(ls.take (k+1)).flatten.length=sumL ls (k+1):=rfl;rw[hd,hst.out] at hle;generalize sumL ls k=s at *;generalize ls.getD k []=m at *;clear hcell hu hsee hd;have i0:(0:Int)<=(k:Int):=by omega
   have i1:(k:Int)<(ls.length:Int):=by omega
   have i2:¬((s:Int)+(m.length:Int)<0):=by omega
   go_wp2_with fail
   go_roundw
   case rel=>exact⟨k+1,by omega,by rw[hst.out];rfl,by go_num,trivial⟩
   case measure=>simp[intOf];omega
  obtain⟨s,hs⟩:∃s,sumL ls k=s:=⟨_,rfl⟩
  have hs2:s<=1099511627776:=by rw[<-hs];exact Nat.le_trans (flat_le ls k) hlen
  rw[hs];have hu':=lhd hu;have hB':=lhd hB;clear hu hB
  go_wp2_with (go_at_call 212;refine (grow_any s (by omega) _).mono ?_;rintro e w' ⟨v,rfl,hW,hbw⟩)
  have hW:=lhd hW;have hbw:=lhd hbw
  rename_i kk _ _
  obtain⟨w,rfl⟩:∃w0:World,w0=wr:=⟨_,rfl⟩
  go_loopw [6,8,27] (fun r _ t wr=>∃k:Nat,k<=ls.length/\t=.int .i64 k/\Hid (OwnB wr w.heap.size r (ls.take k).flatten)/\Hid (Below w.heap.size w wr)) (fun _ _ t _=>ls.length - (intOf t).toNat)
  case atStart=>exact⟨0,by omega,rfl,hW,hbw⟩
  case round=>
   clear hW hbw;obtain⟨k,hk,rfl,hW,hbw⟩:=hrel
   by_cases hlt:k<ls.length
   ·obtain⟨b,o,rfl,hb,hcell⟩:=hu'.out.at_ (by omega)
    obtain⟨A',c',hc,g1,g2,hsee⟩:=hcell k hlt;have hb':b<w.heap.size:=Nat.lt_of_lt_of_le hb hB'.out;have x0:=(hbw.out.cell (p:=⟨b,o+k,none⟩) hb').trans hc;have hsee2:=lhd (hsee.below (hbw.out.mono hB'.out));have hst:=lhd (flat_step ls k hlt);have hle:=flat_le ls (k+1);rw[hst.out,xla] at hle;generalize ls.getD k []=m at *;clear hc hcell hu' hsee;have i0:(0:Int)<=(k:Int):=by omega
    have i1:(k:Int)<(ls.length:Int):=by omega
    go_wp2_with (at_builtin;refine wpList_app (by rfl) _ _ rfl w.heap.size _ _ rfl hW.out B _ m rfl hsee2.out (by omega) hbw.out.size ?_)
    intro v' w' hW2 hb2;have hW2:=lhd hW2;have hb2:=lhd hb2
    go_wp2_with fail
    go_roundw
    case rel=>exact⟨k+1,by omega,by go_num,by rw[hst.out];exact hW2.out,hbw.out.trans hb2.out⟩
    case measure=>simp[intOf];omega
   have he:(ls.take k).flatten=ls.flatten:=by rw[xtl (by omega)]
   rw[he] at hW
   go_wp2_with fail
   go_ret
   exact⟨_,rfl,hW.out,hbw.out⟩
theorem join_any (B:Nat) (u:Value) (ls:List Bs) (w:World) (hu:SeesL w B u ls) (hB:B<=w.heap.size) (hlen:ls.flatten.length<=1099511627776) :
 Calls prog 70 #[u] w (Gives ls.flatten w):=by
 go_enter func70,ntmps70
 go_wp2_with (go_at_call 142;refine (concat_any B u ls _ hu hB hlen).mono ?_;rintro e w' ⟨v,rfl,hW,hbw⟩)
 go_ret
 exact⟨_,rfl,hW,hbw⟩
def vT (t:Int):Bool:=decide (-1152921504606846976<=t/\t<=1152921504606846976)
def vS (lo hi:Int):Bool:=decide (-1152921504606846976<=lo/\hi<=1152921504606846976/\lo<=hi)
theorem vS_eq (lo hi:Int):vS lo hi=(vT lo&&vT hi&&decide (lo<=hi)):=by
 unfold vS vT;rw[Bool.eq_iff_iff];simp;omega
theorem validt_any (t:Int) (w:World) :
 Calls prog 176 #[.int .i64 t] w fun e w'=>e=.returned (.bool (vT t))/\w=w':=by
 by_cases h1:-1152921504606846976<=t<;>by_cases h2:t<=1152921504606846976
 all_goals
  go_enter func176,ntmps176
  go_wp2
  go_ret
  exact⟨ret_bool (by simp[vT, *];try omega),rfl⟩
theorem rvalidt_any (t:Int) (w:World) :
 Calls prog 76 #[.int .i64 t] w fun e w'=>e=.returned (.bool (vT t))/\w=w':=by
 by_cases h1:-1152921504606846976<=t<;>by_cases h2:t<=1152921504606846976
 all_goals
  go_enter func76,ntmps76
  go_wp2
  go_ret
  exact⟨ret_bool (by simp[vT, *];try omega),rfl⟩
theorem valid_any (lo hi:Int) (w:World) :
 Calls prog 105 #[.agg #[.int .i64 lo,.int .i64 hi]] w fun e w'=>e=.returned (.bool (vS lo hi))/\Below w.heap.size w w':=by
 have e1:=vS_eq lo hi
 by_cases h1:vT lo=true<;>by_cases h2:vT hi=true
 all_goals
  go_enter func105,ntmps105
  go_wp2_with (go_at_call 176;refine (validt_any _ _).mono ?_;rintro e w' ⟨rfl,rfl⟩)
  go_ret
  exact⟨ret_bool (by rw[e1];simp[*]),(Below.refl _ _).alloc nlr _⟩
theorem rvalid_any (lo hi:Int) (w:World) :
 Calls prog 17 #[.agg #[.int .i64 lo,.int .i64 hi]] w fun e w'=>e=.returned (.bool (vS lo hi))/\Below w.heap.size w w':=by
 have e1:=vS_eq lo hi
 by_cases h1:vT lo=true<;>by_cases h2:vT hi=true
 all_goals
  go_enter func17,ntmps17
  go_wp2_with (go_at_call 76;refine (rvalidt_any _ _).mono ?_;rintro e w' ⟨rfl,rfl⟩)
  go_ret
  exact⟨ret_bool (by rw[e1];simp[*]),(Below.refl _ _).alloc nlr _⟩
attribute [local go_sem ↓] Go.wp_at_zero Go.wp_at_succ
def SeesAll (w:World) (B:Nat):List Value->List Bs->Prop
 | [],[]=>True
 | v :: vs,l :: ls=>SeesB w B v l/\SeesAll w B vs ls
 | _,_=>False
theorem SeesAll.at_ {w:World} {B:Nat}:∀{vs:List Value} {ls:List Bs},SeesAll w B vs ls->vs.length=ls.length/\∀k,k<ls.length->∃v,vs[k]?=some v/\SeesB w B v (ls.getD k [])
 | [],[],_=>⟨rfl,fun k hk=>absurd hk (by simp)⟩
 | v :: vs,l :: ls,h=>by
   obtain⟨h1,h2⟩:=h.2.at_;refine⟨by simp[h1],fun k hk=>?_⟩;cases k with
   | zero=>exact⟨v,rfl,h.1⟩
   | succ k=>
     obtain⟨u,hu,hs⟩:=h2 k (by simpa using hk);exact⟨u,by simpa using hu,by simpa using hs⟩
theorem SeesAll.alloc {w:World} {B:Nat} (o:Obj) (hB:B<=w.heap.size):∀{vs:List Value} {ls:List Bs},SeesAll w B vs ls->SeesAll (w.alloc o) B vs ls
 | [],[],_=>trivial
 | v :: vs,l :: ls,h=>⟨Sees.alloc h.1 hB o,h.2.alloc o hB⟩
theorem SeesB.moreA {w:World} {B B':Nat} (hB:B<=B'):∀{vs:List Value} {ls:List Bs},SeesAll w B vs ls->SeesAll w B' vs ls
 | [],[],_=>trivial
 | v :: vs,l :: ls,h=>⟨h.1.more hB,SeesB.moreA hB h.2⟩
theorem seesL_lit (w:World) (T:TypeId) {vs:List Value} {ls:List Bs} (h:SeesAll w w.heap.size vs ls) (hm:vs.length<=maxLen) :
 SeesL (w.alloc (.cells vs.toArray T)) (w.alloc (.cells vs.toArray T)).heap.size (.slice (some ⟨w.heap.size,0,none⟩) vs.length vs.length) ls:=by
 obtain⟨h1,h2⟩:=h.at_;have h3:=(SeesB.moreA (B':=(w.alloc (.cells vs.toArray T)).heap.size) (by simp) (h.alloc (.cells vs.toArray T) nlr)).at_.2;refine⟨vs,⟨by rw[h1,Nat.mul_one],_,_,by rw[h1],by omega,by omega,fun _=>⟨w.heap.size,0,rfl,by simp,fun j u hu=>?_⟩⟩,h3⟩;rw[Nat.zero_add,block_cell (heap_alloc_new w _)];exact hu
def u64 (x:Int):Nat:=(x % 18446744073709551616).toNat
theorem u64_lt (x:Int):u64 x<18446744073709551616:=by unfold u64;omega
theorem u64_int (x:Int):x % 18446744073709551616=(u64 x:Int):=by unfold u64;omega
def spanB (lo hi:Int):Bs:=putB 8 (u64 lo)++putB 8 (u64 hi)
def spanC (lo hi:Int):Int:=if vS lo hi then 0 else 3
def spanL (lo hi:Int):Bs:=if vS lo hi then spanB lo hi else []
def SpanPost (lo hi:Int) (w:World) (e:Ending) (w':World):Prop:=
 ∃v,e=.returned (.tuple #[v,.int .i64 (spanC lo hi)])/\OwnB w' w.heap.size v (spanL lo hi)/\Below w.heap.size w w'
theorem rput8_any (x:Int) (w:World):Calls prog 121 #[.int .u64 (x % 18446744073709551616),.int .i64 8] w (Gives (putB 8 (u64 x)) w):=by
 rw[u64_int];exact rput_any (u64 x) 8 (by omega) (u64_lt x) w
theorem put8_any (x:Int) (w:World):Calls prog 74 #[.int .u64 (x % 18446744073709551616),.int .i64 8] w (Gives (putB 8 (u64 x)) w):=by
 rw[u64_int];exact put_any (u64 x) 8 (by omega) (u64_lt x) w
theorem rspanbytes_any (lo hi:Int) (w:World) :
 Calls prog 186 #[.int .i64 lo,.int .i64 hi] w (Gives (spanB lo hi) w):=by
 have p1:=putB_len 8 (u64 lo);have p2:=putB_len 8 (u64 hi)
 go_enter func186,ntmps186
 go_wp2_with (go_at_call 121;refine (rput8_any _ _).mono ?_;first | (have _h:=hb1;clear _h;rintro e w2 ⟨v2,rfl,h2,hb2⟩;obtain⟨A2,c2,rfl,-,-⟩:=h2.sees.mk_) | (rintro e w1 ⟨v1,rfl,h1,hb1⟩;obtain⟨A1,c1,rfl,-,-⟩:=h1.sees.mk_))
 rw[p1] at h1;rw[p2] at h2;have hall:SeesAll w2 w2.heap.size [.slice A1 _ c1,.slice A2 _ c2] [putB 8 (u64 lo),putB 8 (u64 hi)]:=⟨(h1.below hb2).sees,h2.sees,trivial⟩
 have hl:=seesL_lit w2 25 hall (by simp[maxLen]);have hs:[putB 8 (u64 lo),putB 8 (u64 hi)].flatten.length<=1099511627776:=by simp[p1,p2]
 refine (rjoin_any _ _ _ _ hl nlr hs).mono ?_;rintro e w3 ⟨v3,rfl,h3,hb3⟩;dsimp only
 go_wp2_with fail
 go_ret
 exact⟨v3,rfl,by simpa [spanB] using h3.mono (by have:=hb1.size;have:=hb2.size;simp;omega),(hb1.trans (hb2.mono hb1.size)).trans (((Below.refl _ _).alloc nlr _).mono (Nat.le_trans hb1.size hb2.size)) |>.trans (hb3.mono (by have:=hb1.size;have:=hb2.size;simp;omega))⟩
theorem keep_two {W W':World} {g:Nat} {x y:Value} (hb:Below W.heap.size W W') (h:W.cell? ⟨g,0,none⟩=some x/\W.cell? ⟨g,1,none⟩=some y/\g<W.heap.size) :
 W'.cell? ⟨g,0,none⟩=some x/\W'.cell? ⟨g,1,none⟩=some y/\g<W'.heap.size:=
 ⟨(hb.cell (p:=⟨g,0,none⟩) h.2.2).trans h.1,(hb.cell (p:=⟨g,1,none⟩) h.2.2).trans h.2.1,Nat.lt_of_lt_of_le h.2.2 hb.size⟩
theorem keep_two_alloc {W:World} {g:Nat} {x y:Value} {o:Obj} (h:W.cell? ⟨g,0,none⟩=some x/\W.cell? ⟨g,1,none⟩=some y/\g<W.heap.size) :
 (W.alloc o).cell? ⟨g,0,none⟩=some x/\(W.alloc o).cell? ⟨g,1,none⟩=some y/\g<(W.alloc o).heap.size:=keep_two ((Below.refl _ _).alloc nlr o) h
theorem box_two (w:World) (x y:Value) (T:TypeId):(w.alloc (.cells #[x,y] T)).cell? ⟨w.heap.size,0,none⟩=some x/\(w.alloc (.cells #[x,y] T)).cell? ⟨w.heap.size,1,none⟩=some y/\w.heap.size<(w.alloc (.cells #[x,y] T)).heap.size:=
 ⟨(cell_of_row _ _ 0 _ _ _ (heap_alloc_new w _)).trans rfl,(cell_of_row _ _ 1 _ _ _ (heap_alloc_new w _)).trans rfl,by simp⟩
theorem rspan_any (lo hi:Int) (w:World):Calls prog 265 #[.agg #[.int .i64 lo,.int .i64 hi]] w (SpanPost lo hi w):=by
 go_enter func265,ntmps265
 go_wp2_with fail
 have hk:=box_two w (.int .i64 lo) (.int .i64 hi) 24;have hbw:=(Below.refl w.heap.size w).alloc nlr (.cells #[.int .i64 lo,.int .i64 hi] 24);generalize w.alloc (.cells #[.int .i64 lo,.int .i64 hi] 24)=W at hk hbw ⊢;obtain⟨k0,k1,k2⟩:=id hk
 by_cases hv:vS lo hi=true
 all_goals
  go_wp2_with (go_at_call 17;refine (rvalid_any lo hi _).mono ?_;rintro e W2 ⟨rfl,hb2⟩;obtain⟨j0,j1,j2⟩:=keep_two hb2 hk)
 ·refine (rspanbytes_any lo hi _).mono ?_
  rintro e W3 ⟨v3,rfl,h3,hb3⟩;dsimp only
  go_wp2_with fail
  go_returns
  refine⟨v3,by simp[spanC,hv],?_,(hbw.trans (hb2.mono hbw.size)).trans (hb3.mono (Nat.le_trans hbw.size hb2.size))⟩;rw[spanL,if_pos hv];exact h3.mono (Nat.le_trans hbw.size hb2.size)
 go_returns
 exact⟨.slice none 0 0,by simp[spanC,hv],by rw[spanL,if_neg hv];exact World.ownsRow_nil _ _ _ _,hbw.trans (hb2.mono hbw.size)⟩
theorem span_any (lo hi:Int) (w:World):Calls prog 80 #[.agg #[.int .i64 lo,.int .i64 hi]] w (SpanPost lo hi w):=by
 have p1:=putB_len 8 (u64 lo);have p2:=putB_len 8 (u64 hi)
 go_enter func80,ntmps80
 go_wp2_with fail
 have hk:=box_two w (.int .i64 lo) (.int .i64 hi) 24;have hbw:=(Below.refl w.heap.size w).alloc nlr (.cells #[.int .i64 lo,.int .i64 hi] 24);generalize w.alloc (.cells #[.int .i64 lo,.int .i64 hi] 24)=W at hk hbw ⊢;obtain⟨k0,k1,k2⟩:=id hk
 by_cases hv:vS lo hi=true
 all_goals
  go_wp2_with (go_at_call 105;refine (valid_any lo hi _).mono ?_;rintro e W2 ⟨rfl,hb2⟩;obtain⟨j0,j1,j2⟩:=keep_two hb2 hk)
 ·clear k0 k1 k2
  go_region_held3 (fun W'=>W'.cell? ⟨w.heap.size,0,none⟩=some (.int .i64 lo)/\W'.cell? ⟨w.heap.size,1,none⟩=some (.int .i64 hi)/\w.heap.size<W'.heap.size)
   (first | (go_keep;done) | exact keep_two (by assumption) (by assumption) | exact keep_two_alloc (by assumption))
   (first | (go_at_call 70;rw[p1] at h1;rw[p2] at h2;refine (join_any _ _ _ _ (seesL_lit w2 25 (show SeesAll w2 w2.heap.size [.slice A1 8 c1,.slice A2 8 c2] [putB 8 (u64 lo),putB 8 (u64 hi)] from⟨(h1.below hc2).sees,h2.sees,trivial⟩) (by simp[maxLen])) nlr (by simp[p1,p2])).mono ?_;rintro e w3 ⟨v3,rfl,h3,hb3⟩) | (go_at_call 74;refine (put8_any _ _).mono ?_;first | (have _h:=hb1;clear _h;rintro e w2 ⟨v2,rfl,h2,hc2⟩;obtain⟨A2,c2,rfl,-,-⟩:=h2.sees.mk_) | (rintro e w1 ⟨v1,rfl,h1,hb1⟩;obtain⟨A1,c1,rfl,-,-⟩:=h1.sees.mk_)))
  go_wp2_with fail
  go_returns
  have hall:=bgo (bgo (bgo (bgo (bgo (bgo hbw hb2) (bdrew _)) hb1) hc2) (balloc _ _)) hb3;have hsz:=(bgo (bgo (bgo (bgo (bgo hbw hb2) (bdrew _)) hb1) hc2) (balloc _ (.cells #[.slice A1 8 c1,.slice A2 8 c2] 25))).size;refine⟨v3,by simp[spanC,hv],?_,hall⟩;rw[spanL,if_pos hv]
  have:=h3.mono hsz
  simpa [spanB] using this
 go_returns
 exact⟨.slice none 0 0,by simp[spanC,hv],by rw[spanL,if_neg hv];exact World.ownsRow_nil _ _ _ _,hbw.trans (hb2.mono hbw.size)⟩
attribute [local go_sem ↓] Go.wp_at_zero Go.wp_at_succ
def unLo (l:Bs):Int:=wrap64 (getB (l.take 8):Int)
def unHi (l:Bs):Int:=wrap64 (getB (l.drop 8):Int)
def unOk (l:Bs):Bool:=decide (l.length=16)&&vS (unLo l) (unHi l)
def unC (l:Bs):Int:=if unOk l then 0 else 3
def unA (l:Bs):Int:=if unOk l then unLo l else 0
def unB (l:Bs):Int:=if unOk l then unHi l else 0
def UnPost (l:Bs) (w:World) (e:Ending) (w':World):Prop:=
 e=.returned (.tuple #[.agg #[.int .i64 (unA l),.int .i64 (unB l)],.int .i64 (unC l)])/\Below w.heap.size w w'
theorem cuts (w:World) (B:Nat) (A:Option Addr) (c:Nat) (l:Bs) (hl:l.length=16) (hc:16<=c) (hs:SeesB w B (.slice A 16 c) l) :
 ∃A1 A2,(∀W,(Instr.slice 25 (.slice A 16 c) none (some (.int .i64 8)) none).run prog W=.ok (.slice A1 8 c) W) /\
  (∀W,(Instr.slice 25 (.slice A 16 c) (some (.int .i64 8)) none none).run prog W=.ok (.slice A2 8 (c - 8)) W) /\
  SeesB w B (.slice A1 8 c) (l.take 8)/\SeesB w B (.slice A2 8 (c - 8)) (l.drop 8):=by
 have h1:=SeesB.cut (a:=0) (b:=8) hs (by omega) (by omega);have h2:=SeesB.cut (a:=8) (b:=16) hs (by omega) (by omega);rw[List.drop_zero] at h1;rw[xtl (by rw[xld];omega)] at h2;refine⟨cutA A c 0 1,cutA A c 8 1,fun W=>?_,fun W=>?_,h1,h2⟩
 ·have h:=run_cut_to (P:=prog) 25 underlying25 1 byte_size A 16 c .i64 8 (by omega) (by omega) W
  rw[show (8:Int).toNat=8 from rfl] at h;exact h
 have h:=run_cut_from (P:=prog) 25 underlying25 1 byte_size A 16 c .i64 8 (by omega) (by omega) W;rw[show (8:Int).toNat=8 from rfl] at h;exact h
theorem runspan_any (B:Nat) (u:Value) (l:Bs) (w:World) (hu:SeesB w B u l) (hB:B<=w.heap.size) :
 Calls prog 288 #[u] w (UnPost l w):=by
 obtain⟨A,c,rfl,hc1,hc2⟩:=hu.mk_
 by_cases hl:l.length=16
 ·rw[hl] at hc1 hu ⊢
  obtain⟨A1,A2,r1,r2,s1,s2⟩:=cuts w B A c l hl hc1 hu;have e1:unC l=if vS (unLo l) (unHi l) then 0 else 3:=by simp[unC,unOk,hl]
  have e2:unA l=if vS (unLo l) (unHi l) then unLo l else 0:=by simp[unA,unOk,hl]
  have e3:unB l=if vS (unLo l) (unHi l) then unHi l else 0:=by simp[unB,unOk,hl]
  have e4:wrap64 (getB (l.take 8):Int)=unLo l:=rfl;have e5:wrap64 (getB (l.drop 8):Int)=unHi l:=rfl;generalize unLo l=lo at *;generalize unHi l=hi at *
  go_enter func288,ntmps288
  go_wp2_with fail
  have hb0:=balloc w (.cells #[.int .i64 0,.int .i64 0] 24);have hr:=Box.new w 24 [.int .i64 0,.int .i64 0];have s1':=s1.below (hb0.mono hB);have s2':=s2.below (hb0.mono hB);have hBW:B<=(w.alloc (.cells #[.int .i64 0,.int .i64 0] 24)).heap.size:=Nat.le_trans hB hb0.size;clear s1 s2 hu;generalize w.alloc (.cells #[.int .i64 0,.int .i64 0] 24)=W at *
  go_region_held3 (fun W':World=>True) (trivial) ((go_at_call 230;refine (rget_any B _ _ _ (by first | exact s1' | exact s2' | exact Sees.alloc s1' hBW _ | exact Sees.alloc s2' hBW _)).mono ?_;rintro e w' ⟨rfl,rfl⟩))
  all_goals
   go_wp2_with fail
   have hb1:Below W.heap.size W (W.alloc (.cells #[.int .i64 lo,.int .i64 hi] 24)).drew:=(balloc W _).drew;have hx:Box (W.alloc (.cells #[.int .i64 lo,.int .i64 hi] 24)).drew W.heap.size 24 [.int .i64 lo,.int .i64 hi]:=Box.new W _ _;have hr1:=hr.below hb1;generalize (W.alloc (.cells #[.int .i64 lo,.int .i64 hi] 24)).drew=W1 at *;refine (rvalid_any lo hi _).mono ?_;rintro e W2 ⟨rfl,hb2⟩;have hx2:=hx.below hb2;have hr2:=hr1.below hb2;have x0:W2.cell? ⟨W.heap.size,0,none⟩=some (.int .i64 lo):=hx2.cell 0;have x1:W2.cell? ⟨W.heap.size,1,none⟩=some (.int .i64 hi):=hx2.cell 1;have y0:W2.cell? ⟨w.heap.size,0,none⟩=some (.int .i64 0):=hr2.cell 0;have y1:W2.cell? ⟨w.heap.size,1,none⟩=some (.int .i64 0):=hr2.cell 1;have f0:=hr2.frozen 0;have f1:=hr2.frozen 1;have hall:=bgo (bgo hb0 hb1) hb2;have hlt:=hr2.lt;dsimp only;clear s1' s2' r1 r2 hx hr1 hx2 hr
   by_cases hv:vS lo hi=true
   ·go_wp2_with fail
    have hall3:=(hall.setCell (p:=⟨w.heap.size,0,none⟩) nlr (.int .i64 lo)).setCell (p:=⟨w.heap.size,1,none⟩) nlr (.int .i64 hi);have hr3:=(hr2.set 0 (.int .i64 lo)).set 1 (.int .i64 hi);generalize (W2.setCell ⟨w.heap.size,0,none⟩ (.int .i64 lo)).setCell ⟨w.heap.size,1,none⟩ (.int .i64 hi)=W3 at *;have z0:W3.cell? ⟨w.heap.size,0,none⟩=some (.int .i64 lo):=hr3.cell 0;have z1:W3.cell? ⟨w.heap.size,1,none⟩=some (.int .i64 hi):=hr3.cell 1;refine bodyPost_ret (v:=.tuple #[.agg #[.int .i64 lo,.int .i64 hi],.int .i64 0]) (by simp[results,results288,go_sem,z0,z1]) rfl ?_;rw[UnPost,e1,e2,e3];exact⟨by simp[hv],hall3⟩
   go_wp2_with fail
   have hall3:=(hall.setCell (p:=⟨w.heap.size,0,none⟩) nlr (.int .i64 0)).setCell (p:=⟨w.heap.size,1,none⟩) nlr (.int .i64 0);have hr3:=(hr2.set 0 (.int .i64 0)).set 1 (.int .i64 0);generalize (W2.setCell ⟨w.heap.size,0,none⟩ (.int .i64 0)).setCell ⟨w.heap.size,1,none⟩ (.int .i64 0)=W3 at *;have z0:W3.cell? ⟨w.heap.size,0,none⟩=some (.int .i64 0):=hr3.cell 0;have z1:W3.cell? ⟨w.heap.size,1,none⟩=some (.int .i64 0):=hr3.cell 1;refine bodyPost_ret (v:=.tuple #[.agg #[.int .i64 0,.int .i64 0],.int .i64 3]) (by simp[results,results288,go_sem,z0,z1]) rfl ?_;rw[UnPost,e1,e2,e3];exact⟨by simp[hv],hall3⟩
 have e1:unC l=3:=by simp[unC,unOk,hl]
 have e2:unA l=0:=by simp[unA,unOk,hl]
 have e3:unB l=0:=by simp[unB,unOk,hl]
 have hl2:¬((l.length:Int)=16):=by omega
 go_enter func288,ntmps288
 go_wp2_with fail
 go_returns
 rw[UnPost,e1,e2,e3];exact⟨rfl,by go_grown⟩
theorem unspan_any (B:Nat) (u:Value) (l:Bs) (w:World) (hu:SeesB w B u l) (hB:B<=w.heap.size) :
 Calls prog 218 #[u] w (UnPost l w):=by
 obtain⟨A,c,rfl,hc1,hc2⟩:=hu.mk_
 by_cases hl:l.length=16
 ·rw[hl] at hc1 hu ⊢
  obtain⟨A1,A2,r1,r2,s1,s2⟩:=cuts w B A c l hl hc1 hu;have e1:unC l=if vS (unLo l) (unHi l) then 0 else 3:=by simp[unC,unOk,hl]
  have e2:unA l=if vS (unLo l) (unHi l) then unLo l else 0:=by simp[unA,unOk,hl]
  have e3:unB l=if vS (unLo l) (unHi l) then unHi l else 0:=by simp[unB,unOk,hl]
  have e4:wrap64 (getB (l.take 8):Int)=unLo l:=rfl;have e5:wrap64 (getB (l.drop 8):Int)=unHi l:=rfl;generalize unLo l=lo at *;generalize unHi l=hi at *
  go_enter func218,ntmps218
  go_wp2_with fail
  have hb0:=balloc w (.cells #[.int .i64 0,.int .i64 0] 24);have hr:=Box.new w 24 [.int .i64 0,.int .i64 0];have s1':=s1.below (hb0.mono hB);have s2':=s2.below (hb0.mono hB);have hBW:B<=(w.alloc (.cells #[.int .i64 0,.int .i64 0] 24)).heap.size:=Nat.le_trans hB hb0.size;clear s1 s2 hu;generalize w.alloc (.cells #[.int .i64 0,.int .i64 0] 24)=W at *
  go_region_held3 (fun W':World=>True) (trivial) ((go_at_call 147;refine (get_any B _ _ _ (by first | exact s1' | exact s2' | exact Sees.alloc s1' hBW _ | exact Sees.alloc s2' hBW _)).mono ?_;rintro e w' ⟨rfl,rfl⟩))
  all_goals
   go_wp2_with fail
   have hb1:Below W.heap.size W (W.alloc (.cells #[.int .i64 lo,.int .i64 hi] 24)).drew:=(balloc W _).drew;have hx:Box (W.alloc (.cells #[.int .i64 lo,.int .i64 hi] 24)).drew W.heap.size 24 [.int .i64 lo,.int .i64 hi]:=Box.new W _ _;have hr1:=hr.below hb1;generalize (W.alloc (.cells #[.int .i64 lo,.int .i64 hi] 24)).drew=W1 at *;refine (valid_any lo hi _).mono ?_;rintro e W2 ⟨rfl,hb2⟩;have hx2:=hx.below hb2;have hr2:=hr1.below hb2;have x0:W2.cell? ⟨W.heap.size,0,none⟩=some (.int .i64 lo):=hx2.cell 0;have x1:W2.cell? ⟨W.heap.size,1,none⟩=some (.int .i64 hi):=hx2.cell 1;have y0:W2.cell? ⟨w.heap.size,0,none⟩=some (.int .i64 0):=hr2.cell 0;have y1:W2.cell? ⟨w.heap.size,1,none⟩=some (.int .i64 0):=hr2.cell 1;have f0:=hr2.frozen 0;have f1:=hr2.frozen 1;have hall:=bgo (bgo hb0 hb1) hb2;have hlt:=hr2.lt;dsimp only;clear s1' s2' r1 r2 hx hr1 hx2 hr
   by_cases hv:vS lo hi=true
   ·go_wp2_with fail
    have hall3:=(hall.setCell (p:=⟨w.heap.size,0,none⟩) nlr (.int .i64 lo)).setCell (p:=⟨w.heap.size,1,none⟩) nlr (.int .i64 hi);have hr3:=(hr2.set 0 (.int .i64 lo)).set 1 (.int .i64 hi);generalize (W2.setCell ⟨w.heap.size,0,none⟩ (.int .i64 lo)).setCell ⟨w.heap.size,1,none⟩ (.int .i64 hi)=W3 at *;have z0:W3.cell? ⟨w.heap.size,0,none⟩=some (.int .i64 lo):=hr3.cell 0;have z1:W3.cell? ⟨w.heap.size,1,none⟩=some (.int .i64 hi):=hr3.cell 1;refine bodyPost_ret (v:=.tuple #[.agg #[.int .i64 lo,.int .i64 hi],.int .i64 0]) (by simp[results,results218,go_sem,z0,z1]) rfl ?_;rw[UnPost,e1,e2,e3];exact⟨by simp[hv],hall3⟩
   go_wp2_with fail
   have hall3:=(hall.setCell (p:=⟨w.heap.size,0,none⟩) nlr (.int .i64 0)).setCell (p:=⟨w.heap.size,1,none⟩) nlr (.int .i64 0);have hr3:=(hr2.set 0 (.int .i64 0)).set 1 (.int .i64 0);generalize (W2.setCell ⟨w.heap.size,0,none⟩ (.int .i64 0)).setCell ⟨w.heap.size,1,none⟩ (.int .i64 0)=W3 at *;have z0:W3.cell? ⟨w.heap.size,0,none⟩=some (.int .i64 0):=hr3.cell 0;have z1:W3.cell? ⟨w.heap.size,1,none⟩=some (.int .i64 0):=hr3.cell 1;refine bodyPost_ret (v:=.tuple #[.agg #[.int .i64 0,.int .i64 0],.int .i64 3]) (by simp[results,results218,go_sem,z0,z1]) rfl ?_;rw[UnPost,e1,e2,e3];exact⟨by simp[hv],hall3⟩
 have e1:unC l=3:=by simp[unC,unOk,hl]
 have e2:unA l=0:=by simp[unA,unOk,hl]
 have e3:unB l=0:=by simp[unB,unOk,hl]
 have hl2:¬((l.length:Int)=16):=by omega
 go_enter func218,ntmps218
 go_wp2_with fail
 go_returns
 rw[UnPost,e1,e2,e3];exact⟨rfl,by go_grown⟩
end Go.Proofs.YtjgepckncogdaaaGreat
namespace Go.Proofs.YtjgepckncogdaaaGreat
open Go.RowKit Go.WideShapes Go.ChangeShapes _root_.Go.Proofs.Tryz
section
variable {H:Type} {enc:TypeId × Value->H} {P:Program}
theorem post_of_below {f:Func} {s:ChangeSpec} {apart fresh handsOn again:Bool} {W W':World} {args:Array Value} {v:Value} {ds gs:List (DataW H)} {before pa pv:List MemPlace}
 (hW:DataW.Whole enc P f.params.toList s.vars apart W args.toList ds gs before)
 (hres:∀(b:Nat) (sp:Nat->Bool) (hd:Bool),DataW.TrodAll enc P W' b sp hd f.resultTypes.toList (v.resultList f.resultTypes.size) (s.fn H (ds++gs)).results [])
 (hargs:∀sp:Nat->Bool,(∀p∈before,sp p.block=true)->DataW.TrodAll enc P W' 0 sp true f.params.toList args.toList (s.fn H (ds++gs)).args pa)
 (hvars:∀sp:Nat->Bool,(∀p∈before,sp p.block=true)->DataW.TrodVars enc P W' sp s.vars (s.fn H (ds++gs)).vars pv)
 (hps:before=pa++pv) (hb:Below W.heap.size W W')
 (hok:∀(j:Nat) (t:TypeId) (r:Value),f.resultTypes[j]?=some t->(v.resultList f.resultTypes.size)[j]?=some r->Value.okWide P W' .any 0 t r) :
 s.post enc P f apart fresh handsOn again W args v W':=by
 have hlt:∀p∈before,p.block<W.heap.size:=fun p hp=>hW.lt p hp
 have hold:∀p∈before,(fun b=>decide (b<W.heap.size)) p.block=true:=fun p hp=>by simpa using hlt p hp
 refine⟨ds,gs,before,[],pa,pv,hW,hres _ _ _,hargs _ hold,hvars _ hold,World.keptBut_mono (fun p hp=>⟨hp,?_⟩) (hb.frame (·∈before)),fun _=>?_⟩
 ·rw[hps,List.mem_append] at hp
  exact Or.inr hp
 obtain⟨_,_,_,_,_,hz,hn⟩:=hW;refine⟨hok,_,_,([]++pa)++pv,⟨[]++pa,pv,trodAll_append (hargs _ (fun _ _=>rfl)) (hres _ _ _),hvars _ (fun _ _=>rfl),rfl,?_,?_⟩,?_⟩
 ·intro b off hp
  have hin:MemPlace.cell b off∈before:=by rw[hps];simpa using hp
  rw[hb.frozen (hlt _ hin)];exact hz b off hin
 ·intro ha
  have:=hn ha
  rw[hps] at this
  simpa using this
 intro p hp _;rw[hps]
 simpa using hp
end
theorem mapM_keep {α β:Type} {f g:α->Option β}:∀{l:List α} {ys:List β},l.mapM f=some ys->(∀x y,x∈l->y∈ys->f x=some y->g x=some y)->l.mapM g=some ys
 | [],ys,h,_=>by simpa using h
 | x :: l,ys,h,hk=>by
   rw[List.mapM_cons] at h ⊢;cases h1:f x with
   | none=>rw[h1] at h;simp at h
   | some y=>
     cases h2:l.mapM f with
     | none=>rw[h1,h2] at h;simp at h
     | some zs=>
       rw[h1,h2] at h;have h:y :: zs=ys:=by simpa using h
       subst h;rw[hk x y (by simp) (by simp) h1,mapM_keep h2 (fun x' y' hx hy he=>hk x' y' (by simp[hx]) (by simp[hy]) he)]
       rfl
theorem cell_keep {W W':World} (hb:Below W.heap.size W W') {a:Addr} {v:Value} (h:W.cell? a=some v):W'.cell? a=some v:=by
 have hlt:a.block<W.heap.size:=by
  rcases Nat.lt_or_ge a.block W.heap.size with h1|h1
  ·exact h1
  exfalso
  have h0:W.heap[a.block]?=none:=Array.getElem?_eq_none h1;unfold World.cell? at h;rw[h0] at h;simp at h
 rw[hb.cell hlt];exact h
theorem cells_keep {W W':World} (hb:Below W.heap.size W W') {base n:Nat} {a:Addr} {vs:List Value} (h:W.cells? base a n=some vs):W'.cells? base a n=some vs:=by
 unfold World.cells? at h ⊢
 split at h
 ·rw[if_pos (by assumption)]
  exact mapM_keep h (fun x y _ _ he=>cell_keep hb he)
 cases h
theorem mem_flat {α β:Type} {xs:List (α × List β)} {y:α × List β} {p:β} (hy:y∈xs) (hp:p∈y.2):p∈xs.flatMap (·.2):=List.mem_flatMap.2 ⟨y,hy,hp⟩
theorem mapM_len {α β:Type} {f:α->Option β}:∀{l:List α} {ys:List β},l.mapM f=some ys->ys.length=l.length
 | [],ys,h=>by
   have:[]=ys:=by simpa using h
   subst this;rfl
 | x :: l,ys,h=>by
   rw[List.mapM_cons] at h;cases h1:f x with
   | none=>rw[h1] at h;simp at h
   | some y=>
     cases h2:l.mapM f with
     | none=>rw[h1,h2] at h;simp at h
     | some zs=>
       rw[h1,h2] at h;have h:y :: zs=ys:=by simpa using h
       subst h;simp[mapM_len h2]
section
variable {H:Type} {enc:TypeId × Value->H} {P:Program}
def fine (P:Program):Nat->TypeId->Bool
 | 0,_=>false
 | n+1,t=>
   match P.underlying t with
   | some .bool=>true
   | some (.int _)=>true
   | some .string=>true
   | some (.slice e)=>decide (0<P.cellsOf e)&&fine P n e
   | some (.struct fs)=>fs.toList.all fun f=>fine P n f.type
   | some (.array _ e)=>fine P n e
   | _=>false
theorem trod_keep {W W':World} (hb:Below W.heap.size W W') (sp:Nat->Bool) :
 ∀(n fuel:Nat) (t:TypeId) (cs:List Value) (x:DataW H × List MemPlace),fine P n t=true->DataW.trod enc P W 0 (fun _=>true) true fuel t cs=some x->(∀p∈x.2,sp p.block=true)->DataW.trod enc P W' 0 sp true fuel t cs=some x
 | 0,_,_,_,_,hf,_,_=>by simp[fine] at hf
 | n+1,0,_,_,_,_,h,_=>by simp[DataW.trod] at h
 | n+1,fuel+1,t,cs,x,hf,h,hp=>by
   have ih:=trod_keep hb sp n fuel;unfold DataW.trod at h ⊢;unfold fine at hf
   split at h
   all_goals try exact h
   all_goals (rename_i hut;try (rw[hut] at hf;cases hf;done))
   ·-- slice
    rename_i e a len cap
    rw[hut] at hf;simp only[Bool.and_eq_true,decide_eq_true_eq] at hf;simp only[] at h ⊢
    split at h
    ·rename_i hif
     rw[if_pos hif];obtain⟨ys,hys,h⟩:=Option.bind_eq_some_iff.1 h;obtain⟨rest,hrest,rfl⟩:=Option.map_eq_some_iff.1 h;simp only[if_true] at hrest;have hel:∀(i:Nat) (y:DataW H × List MemPlace),y∈ys++rest->((W.cells? 0 (a.add (i * P.cellsOf e)) (P.cellsOf e)).bind (DataW.trod enc P W 0 (fun _=>true) true fuel e))=some y ->
      ((W'.cells? 0 (a.add (i * P.cellsOf e)) (P.cellsOf e)).bind (DataW.trod enc P W' 0 sp true fuel e))=some y:=by
      intro i y hy he;obtain⟨vs,hv,he⟩:=Option.bind_eq_some_iff.1 he;rw[cells_keep hb hv,Option.bind_some];exact ih _ _ _ hf.2 he (fun p hp'=>hp p (List.mem_append_right _ (mem_flat hy hp')))
     rw[mapM_keep hys (fun i y _ hy he=>hel i y (List.mem_append_left _ hy) he),Option.bind_some];have l2:=mapM_len hrest;rw[List.length_range] at l2
     by_cases h0:cap - len=0
     ·rw[h0] at hrest ⊢
      have hr0:rest=[]:=by simpa using hrest.symm
      subst hr0;simp
     ·have hsp:sp a.block=true:=by
       refine hp (.cell a.block (a.off+0)) (List.mem_append_left _ (List.mem_map.2 ⟨0,List.mem_range.2 ?_,rfl⟩));exact Nat.mul_pos (by omega) hf.1
      rw[if_pos hsp,mapM_keep hrest (fun i y _ hy he=>hel _ y (List.mem_append_right _ hy) he),Option.map_some]
    cases h
   ·-- struct
    rw[hut] at hf;simp only[List.all_eq_true] at hf
    split at h
    ·rename_i hif
     rw[if_pos hif];obtain⟨xs,hxs,rfl⟩:=Option.map_eq_some_iff.1 h;rw[mapM_keep hxs (fun f y hfm hy he=>ih _ _ _ (hf f hfm) he (fun p hp'=>hp p (mem_flat hy hp'))),Option.map_some]
    cases h
   -- array
   rw[hut] at hf
   split at h
   ·rename_i hif
    rw[if_pos hif];obtain⟨xs,hxs,rfl⟩:=Option.map_eq_some_iff.1 h;rw[mapM_keep hxs (fun f y _ hy he=>ih _ _ _ hf he (fun p hp'=>hp p (mem_flat hy hp'))),Option.map_some]
   cases h
theorem trodAll_keep (n:Nat) {W W':World} (hb:Below W.heap.size W W') (sp:Nat->Bool) :
 ∀{ts:List TypeId} {vs:List Value} {ds:List (DataW H)} {ps:List MemPlace},(ts.all (fine P n)=true)->DataW.TrodAll enc P W 0 (fun _=>true) true ts vs ds ps->(∀p∈ps,sp p.block=true)->DataW.TrodAll enc P W' 0 sp true ts vs ds ps
 | [],[],[],ps,_,h,_=>h
 | t :: ts,v :: vs,d :: ds,ps,hf,⟨p,q,⟨fuel,h1⟩,h2,hpq⟩,hp=>by
   subst hpq;simp only[List.all_cons,Bool.and_eq_true] at hf;exact⟨p,q,⟨fuel,trod_keep hb sp n fuel t _ _ hf.1 h1 (fun x hx=>hp x (List.mem_append_left _ hx))⟩,trodAll_keep n hb sp hf.2 h2 (fun x hx=>hp x (List.mem_append_right _ hx)),rfl⟩
 | [],[],_ :: _,_,_,h,_=>h.elim
 | [],_ :: _,_,_,_,h,_=>h.elim
 | _ :: _,[],_,_,_,h,_=>h.elim
 | _ :: _,_ :: _,[],_,_,h,_=>h.elim
theorem post_of_kept {f:Func} {s:ChangeSpec} {apart fresh handsOn again:Bool} {W W':World} {args:Array Value} {v:Value} {ds gs:List (DataW H)} {before p:List MemPlace}
 (hfine:f.params.toList.all (fine P 8)=true)
 (hW:DataW.Whole enc P f.params.toList s.vars apart W args.toList ds gs before)
 (hA:DataW.TrodAll enc P W 0 (fun _=>true) true f.params.toList args.toList ds p) (hbef:before=p)
 (hvars0:s.vars=[]) (hfa:(s.fn H (ds++gs)).args=ds) (hfv:(s.fn H (ds++gs)).vars=[])
 (hres:∀(b:Nat) (sp:Nat->Bool) (hd:Bool),DataW.TrodAll enc P W' b sp hd f.resultTypes.toList (v.resultList f.resultTypes.size) (s.fn H (ds++gs)).results [])
 (hb:Below W.heap.size W W')
 (hok:∀(j:Nat) (t:TypeId) (r:Value),f.resultTypes[j]?=some t->(v.resultList f.resultTypes.size)[j]?=some r->Value.okWide P W' .any 0 t r) :
 s.post enc P f apart fresh handsOn again W args v W':=by
 subst hbef;refine post_of_below (pa:=before) (pv:=[]) hW hres (fun sp hsp=>?_) (fun sp _=>?_) (by simp) hb hok
 ·rw[hfa];exact trodAll_keep 8 hb sp hfine hA hsp
 rw[hvars0,hfv];rfl
end
end Go.Proofs.YtjgepckncogdaaaGreat
namespace Go.Proofs.YtjgepckncogdaaaGreat
open Go.ChangeShapes Go.WideShapes Go.ChangeAt Go.RowKit _root_.Go.Proofs.Tryz
section
variable {H:Type} {enc:TypeId × Value->H} {w:World} {base:Nat} {r:Reach} {v:Value} {d:DataW H} {ps:List MemPlace}
theorem cells_uint8:prog.cellsOf 5=1:=by kernel_rfl
theorem byte_of (n:Int) (h0:0<=n) (h1:n<256):Value.int .u8 n=byV (UInt8.ofNat n.toNat):=by
 unfold byV;rw[UInt8.toNat_ofNat',Nat.mod_eq_of_lt (by omega)]
 congr 1
 omega
theorem open_bytes (hval:Value.okWide prog w r base 25 v) (h:DataW.Trod enc prog w 0 (fun _=>true) true 25 v d ps):∃l:Bs,SeesB w w.heap.size v l:=by
 obtain⟨a0,len,cap,rfl⟩:=okWide_slice underlying25 hval;obtain⟨fuel,hf⟩:=h;rcases open_ints underlying25 underlying5 cells_uint8 hf with ⟨hcs,hx⟩|⟨a,len',cap',zs,hcs,_,hl,hm,hz,hx,hcell,hwz⟩
 ·simp[Value.cells] at hcs
  obtain⟨rfl,rfl,rfl⟩:=hcs;exact⟨[],SeesB.nil _ _⟩
 simp[Value.cells] at hcs;obtain⟨rfl,rfl,rfl⟩:=hcs;simp only[if_true] at hz;have hlen:((zs.take len).map fun n=>UInt8.ofNat n.toNat).length=len:=by simp;omega
 refine⟨(zs.take len).map fun n=>UInt8.ofNat n.toNat,?_⟩;unfold SeesB;rw[hlen];refine⟨by rw[vb_len,hlen,Nat.mul_one],some a,cap,rfl,hl,hm,fun h0=>?_⟩;obtain⟨b,off,spot⟩:=a;have hc:=hcell 0 (by omega);have hspot:spot=none:=by simpa [Addr.add] using World.cell?_spot hc
 subst hspot;refine⟨b,off,rfl,?_,fun j u hj=>?_⟩
 ·rcases Nat.lt_or_ge b w.heap.size with h1 | h1
  ·exact h1
  exfalso
  have h0:w.heap[b]?=none:=Array.getElem?_eq_none h1;unfold World.cell? at hc;rw[add_zero'] at hc;simp only[h0] at hc;simp at hc
 rw[vb_get] at hj;obtain⟨x,hx,rfl⟩:=Option.map_eq_some_iff.1 hj;rw[xgm] at hx;obtain⟨n,hn,rfl⟩:=Option.map_eq_some_iff.1 hx;have hj2:j<len:=by
  have:=(List.getElem?_eq_some_iff.1 hn).1
  rw[xlt] at this;omega
 rw[List.getElem?_take,if_pos hj2] at hn;have hc:=hcell j (by omega);have hw:=hwz n (List.mem_of_getElem? hn);rw[add_zero',xgd,hn,Option.getD_some] at hc;have hb:=bounds_u8 hw;rw[hc,byte_of n hb.1 (by omega)]
end
end Go.Proofs.YtjgepckncogdaaaGreat
