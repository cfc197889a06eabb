/- Contracts of functions, walks, plain facts. Conditions: those of each theorem. -/
import Derived.Test.YtjgepckncogdaaaGreatVProofA
import Derived.Test.YtjgepckncogdaaaGreatVNonce
import Derived.Test.YtjgepckncogdaaaGreatK28
set_option linter.unusedVariables false
set_option linter.unusedSimpArgs false
set_option maxRecDepth 100000
set_option maxHeartbeats 16000000
namespace Go.Proofs.YtjgepckncogdaaaGreat
open Go Go.RowKit _root_.Go.Proofs.Tryz
attribute [local go_sem ↓] Go.wp_at_zero Go.wp_at_succ
theorem TapeAt.row {w w':World} {g k:Nat} {r:Option Nat} {u:Value} {l:List Int} (h:TapeAt w g u l k) (hg:w.grownBy w' r) (hne:∀j,r=some j->g<j):TapeAt w' g u l k:=by
 obtain⟨h1,h2,h3⟩:=h;refine⟨(hg.block g h1.lt (fun e=>by have:=hne g e.symm;omega)).trans h1,Sees.below h2 ⟨hg.os,hg.tape,hg.output,hg.size,fun k hk=>hg.block k (by have:=h1.lt;omega) (fun e=>by have:=hne k e.symm;omega)⟩,h3⟩
theorem wide_vS:vS (-1099511627776) 1099511627776=true:=by
 unfold vS;rw[decide_eq_true_iff]
 omega
theorem grant_two {sd p:Bs} {n f t:Int} (h1:sd.length=32) (h2:p.length=32) (h3:vS f t=true) (n0:0<=n) (n1:n<2):grantR sd 1 n p f t=((sd,1,n+1),(p,f,t,sigG sd 1 n.toNat (tGrant++p++spanB f t)),0):=by
 have hv:validI sd 1 n=true:=by
  unfold validI;rw[decide_eq_true h1,decide_eq_true n0,decide_eq_true (show n<=2 ^ (1:Int).toNat by show n<=2;omega)]
  rfl
 have hs:∀m,signAll sd 1 n m=(sd,1,n+1,sigG sd 1 n.toNat m,0):=fun m=>by
  unfold signAll;rw[if_pos hv,if_neg (show ¬n=2 ^ (1:Int).toNat by show ¬n=2;omega)]
  rfl
 unfold grantR;rw[if_pos hv,if_pos h2,if_pos h3,hs]
 rfl
theorem lastA_len (ls:List (Bs × Bs × Bs)) (h:∀t∈ls,t.1.length=32/\t.2.1.length=32/\t.2.2.length<=2048):(lastA ls).length<=2048:=by
 unfold lastA;cases e:ls.getLast? with
 | none=>simp
 | some t=>exact (h t (List.mem_of_getLast? e)).2.2
theorem next_zero {ls:List (Bs × Bs × Bs)} {x:Bs} (h:∀t∈ls,t.1.length=32/\t.2.1.length=32/\t.2.2.length<=2048) (hn:ls.length<8) (hx:x.length=32):nextC ls x=0/\(nextG ls x).length=32:=by
 have h1:=lastA_len ls h;have hc:nonceC (lastA ls) x=0:=by rw[nonceC,if_neg (by omega),if_pos hx]
 refine⟨by rw[nextC,if_neg (by omega),hc],?_⟩;rw[nextG,if_neg (by omega),nonceG,if_pos hc];exact sha_len _
theorem wpList_appRF {ops:Array Oper} {rest:List Oper} {o:Oper} {a:Act} {w:World} {Q:Exit->Act->World->Prop} (hgd:Region.wanted o (yielded ops a.tmps)=true) (s x:Operand) (T E:TypeId) (hT:prog.underlying T=some (.slice E))
 (ho:o.op=.call { callee:=.builtin .append,args:=#[s,x],argTypes:=#[T,T] }) (i:TypeInfo) (z:Value) (size bytes:Nat) (hi:prog.info? E=some i) (hz:i.zero=some z)
 (hsz:i.size=size) (hby:i.bytes=bytes) (hzs:z.cells.size=size) (h0:0<size) (hby2:bytes<=1024)
 (base:Nat) (v:Value) (n:Nat) (ss:List Spec) (hs:a.eval s=v) (hown:OwnRF w base E v size n ss) (B:Nat) (u:Value) (m:Nat) (vs:List Value) (ts:List Spec) (hx:a.eval x=u) (hr:Sees w B u size m vs)
 (htl:ts.length=m * size) (hel:∀(k:Nat) (t:Spec),ts[k]?=some t->∃y,vs[k]?=some y/\EltS w v y t/\From base y)
 (hlen:n+m<=1048576) (hbase:base<=w.heap.size)
 (h:∀v' w',OwnRF w' base E v' size (n+m) (ss++ts)->Below base w w'->wpList prog ops Q rest (a.put o.dst v') w'):wpList prog ops Q (o :: rest) a w:=
 BigFrame.wpList_want hgd fun _ hK=>wp_appRF s x T E hT ho i z size bytes hi hz hsz hby hzs h0 hby2 base v n ss hs hown B u m vs ts hx hr htl hel hlen hbase fun v' w' h2 h3 _=>hK _ _ (h v' w' h2 h3)
def KeyPostF (seed:Bs) (h:Int) (w:World) (e:Ending) (w':World):Prop:=
 ∃v,e=.returned (.tuple #[v,.int .i64 (pubC seed h)])/\SeesB w' w'.heap.size v (pubG seed h)/\From w.heap.size v/\Below w.heap.size w w'
theorem rpublicF_any (B:Nat) (u:Value) (seed:Bs) (h:Int) (w:World) (hu:SeesB w B u seed) (hB:B<=w.heap.size) (hl:seed.length=32) (hh:0<=h/\h<=6) :
 Calls prog 66 #[u,.int .i64 h] w (KeyPostF seed h w):=by
 obtain⟨h0,h1⟩:=hh;obtain⟨k,rfl⟩:=Int.eq_ofNat_of_zero_le h0;have hc:=rleaves_any B u seed k w hu hB hl (by omega);have hv:Hid (pubC seed k=0):=by show _=_;simp[pubC,hl];omega
 have hv2:Hid (pubG seed k=keyG seed k):=by show _=_;simp[pubG,hl];omega
 have j0:decide ((k:Int)<0)=false:=by simp
 have j1:¬((6:Int)<(k:Int)):=by omega
 replace hc:Hid (Calls _ _ _ _ (GivesL (leavesL seed (2 ^ k)) w)):=hc;have hlen:=leavesL_len seed (2 ^ k);have hp:=pow_le64 k (by omega);have hel:=lhd (leavesL_el seed (2 ^ k));obtain⟨A,c,rfl,-,-⟩:=hu.mk_;rw[hl] at hc ⊢;clear hu hl;rw[<-key_root] at hv2;generalize leavesL seed (2 ^ k)=ls at *
 go_enter func66,ntmps66
 go_wp2_with fail
 refine hc.out.mono ?_;rintro e w1 ⟨v,rfl,k1,hb1⟩;dsimp only
 go_wp2_with fail
 refine (rroot_top ls _ _ _ k1.sees nlr (by omega) (fun l hx=>by have:=hel.out l hx;omega)).mono ?_;rintro e w2 ⟨v2,rfl,h2,hb2⟩;dsimp only
 go_wp2_with fail
 go_returns
 exact⟨v2,by rw[hv.out];rfl,by rw[hv2.out];exact h2.sees,h2.from.mono hb1.size,bgo hb1 hb2⟩
end Go.Proofs.YtjgepckncogdaaaGreat
