/- Contracts of functions, walks, plain facts. Conditions: those of each theorem. -/
import Derived.Test.YtjgepckncogdaaaGreatZC2
set_option linter.unusedVariables false
set_option linter.unusedSimpArgs false
set_option maxRecDepth 100000
set_option maxHeartbeats 16000000
namespace Go.Proofs.YtjgepckncogdaaaGreat
open Go Go.RowKit _root_.Go.Proofs.Tryz
theorem edown_any (a:Int) (h0:0<=a) (h1:a<18446744073709551616) (w:World) :
 Calls prog 248 #[.int .u64 a] w fun e w'=>e=.returned (.int .i64 (a / 4096))/\w=w':=by
 go_enter func248,ntmps248
 go_wp2
 go_ret
 exact⟨rfl,rfl⟩
theorem eand4095 (a:Int) (h0:0<=a) (h1:a<18446744073709551616):bits .and .u64 a 4095=a % 4096:=by
 obtain⟨n,rfl⟩:=Int.eq_ofNat_of_zero_le h0;rw[show (4095:Int)=((4095:Nat):Int) from rfl,Go.bits_and_u64_nat n 4095 (by omega) (by omega),show (4095:Nat)=2 ^ 12 - 1 from rfl,Nat.and_two_pow_sub_one_eq_mod]
 rfl
theorem eup_any (a:Int) (h0:0<=a) (h1:a<18446744073709551616) (w:World) :
 Calls prog 247 #[.int .u64 a] w fun e w'=>e=.returned (.int .i64 ((a+4095) / 4096))/\w=w':=by
 have hb:=eand4095 a h0 h1
 go_enter func247,ntmps247
 go_wp2_with (go_at_call 248;refine (edown_any _ (by omega) (by omega) _).mono ?_;rintro e w' ⟨rfl,rfl⟩)
 all_goals (go_ret;exact⟨ret_int (by omega),rfl⟩)
theorem eup_any' (a:Int) (h0:0<=a) (h1:a<18446744073709551616) (w:World) :
 Calls prog 247 #[.int .u64 a] w fun e w'=>e=.returned (.int .i64 ((a+4095) / 4096))/\w'=w:=(eup_any a h0 h1 w).mono fun _ _ ⟨h,k⟩=>⟨h,k.symm⟩
theorem edown_any' (a:Int) (h0:0<=a) (h1:a<18446744073709551616) (w:World) :
 Calls prog 248 #[.int .u64 a] w fun e w'=>e=.returned (.int .i64 (a / 4096))/\w'=w:=(edown_any a h0 h1 w).mono fun _ _ ⟨h,k⟩=>⟨h,k.symm⟩
def elo_ (k w:Int):Int:=k * 4503599627370496+w / 4096
def ehi_ (k w:Int):Int:=k * 4503599627370496+(w+4095) / 4096
theorem estamp_any (k a:Int) (h0:0<=a) (h1:a<18446744073709551616) (hk0:-1024<=k) (hk1:k<=1024) (w:World) :
 Calls prog 249 #[.int .i64 k,.int .u64 a] w fun e w'=>e=.returned (.agg #[.int .i64 (elo_ k a),.int .i64 (ehi_ k a)])/\Below w.heap.size w w':=by
 go_enter func249,ntmps249
 go_wp2_with (first | (go_at_call 248;refine (edown_any _ (by omega) (by omega) _).mono ?_;rintro e w' ⟨rfl,rfl⟩) | (go_at_call 247;refine (eup_any _ (by omega) (by omega) _).mono ?_;rintro e w' ⟨rfl,rfl⟩))
 go_returns
 exact⟨rfl,by go_grown⟩
def efirst_ (lo a:Int):Int:=(lo - (a+4095) / 4096+4503599627370495) / 4503599627370496
def elast_ (hi a:Int):Int:=(hi - a / 4096) / 4503599627370496
def ecellsOf (k a:Int):Nat->List Value
 | 0=>[]
 | n+1=>ecellsOf k a n++[.int .i64 (elo_ (k+n) a),.int .i64 (ehi_ (k+n) a)]
theorem espan_info:(prog.info? 24).map (fun i=>(i.zero,i.size,i.bytes))=some (some (.agg #[.int .i64 0,.int .i64 0]),2,16):=by kernel_rfl
theorem eunfold_ok (lo hi a:Int) (h0:0<=a) (h1:a<18446744073709551616) (hv:vS lo hi=true) (hl:elast_ hi a - efirst_ lo a<64) (w:World) :
 Calls prog 189 #[.agg #[.int .i64 lo,.int .i64 hi],.int .u64 a] w fun e w'=>∃v,e=.returned (.tuple #[v,.int .i64 0]) /\
  w'.ownsRow w.heap.size 24 2 v (elast_ hi a - efirst_ lo a+1).toNat (ecellsOf (efirst_ lo a) a (elast_ hi a - efirst_ lo a+1).toNat)/\Below w.heap.size w w':=by
 obtain⟨i0,hi0,hz0,hz1,hz2⟩:=info_parts espan_info;have hv':=hv;simp only[vS,decide_eq_true_eq] at hv';obtain⟨v1,v2,v3⟩:=hv'
 go_enter func189,ntmps189
 go_wp2_with (go_at_call 105;refine (valid_any _ _ _).mono ?_;rw[hv];rintro e w1 ⟨rfl,hb1⟩)
 have c0:w1.cell? ⟨w.heap.size,0,none⟩=some (.int .i64 lo):=(hb1.cell (p:=⟨w.heap.size,0,none⟩) (by simp)).trans (by rw[World.cell?_alloc_at _ _ _ _ rfl];rfl);have c1:w1.cell? ⟨w.heap.size,1,none⟩=some (.int .i64 hi):=(hb1.cell (p:=⟨w.heap.size,1,none⟩) (by simp)).trans (by rw[World.cell?_alloc_at _ _ _ _ rfl];rfl)
 go_quiet ((first | (go_at_call 247;exact Calls.quiet_of_same (eup_any' _ (by omega) (by omega) _)) | (go_at_call 248;exact Calls.quiet_of_same (edown_any' _ (by omega) (by omega) _))))
 have HF:Hid (efirst_ lo a=(lo - (a+4095) / 4096+4503599627370496 - 1) / 4503599627370496):=by show efirst_ lo a=_;unfold efirst_;omega
 have HL:Hid (elast_ hi a=(hi - a / 4096) / 4503599627370496):=rfl;generalize (lo - (a+4095) / 4096+4503599627370496 - 1) / 4503599627370496=F at HF ⊢;generalize (hi - a / 4096) / 4503599627370496=L at HL ⊢;have hF0:-1024<=F:=by rw[<-HF.out];unfold efirst_;omega
 have hF1:F<=512:=by rw[<-HF.out];unfold efirst_;omega
 have hL0:-1024<=L:=by rw[<-HL.out];unfold elast_;omega
 have hL1:L<=512:=by rw[<-HL.out];unfold elast_;omega
 have hl':L - F<64:=by have:=HF.out;have:=HL.out;omega
 have HP:Hid (efirst_ lo a=F/\elast_ hi a=L):=⟨HF.out,HL.out⟩
 have hb2:Below w.heap.size w (w1.drewN nq):=below_drewN (((Below.refl _ _).alloc nlr _).trans (hb1.mono (by simp))) nq;clear HF HL hl hv c0 c1 hb1;generalize w1.drewN nq=w2 at hb2 ⊢;have hz:=hb2.size;obtain⟨n,hn⟩:∃n:Nat,n=(L - F+1).toNat:=⟨_,rfl⟩
 have HN:=lhd hn;have hn1:L - F+1<=n:=by omega
 have hn2:n<=64:=by omega
 have hn3:(n:Int)=0\/n<=L - F+1:=by omega
 clear hn
 go_wp2
 go_loopw [8,35] (fun v k wr=>∃j:Nat,j<=n/\k=.int .i64 j/\wr.ownsRow w.heap.size 24 2 v j (ecellsOf F a j)/\Below w.heap.size w wr) (fun _ k _=>n - (intOf k).toNat)
 case atStart=>exact⟨0,Nat.zero_le _,rfl,World.ownsRow_nil _ _ _ _,hb2⟩
 case round=>
  obtain⟨j,hj,rfl,hown,hbw⟩:=hrel;have hsz:=hbw.size
  by_cases hlt:(j:Int)<L - F+1
  ·go_wp2_with (first | (go_at_call 249;refine (estamp_any _ _ (by omega) (by omega) (by omega) (by omega) _).mono ?_;rintro e w4 ⟨rfl,hb4⟩;have hown4:=own_below hown hb4;have hz4:=hb4.size;clear hown) | (at_builtin;refine wpList_append_own _ rfl (.tmp 38) (.tmp 44) 67 rfl w.heap.size 24 i0 _ 2 16 underlying67 hi0 hz0 hz1 hz2 rfl (by decide) _ j _ rfl (hown4.alloc _) ⟨w4.heap.size,0,none⟩ 1 1 [.int .i64 (elo_ (F+j) a),.int .i64 (ehi_ (F+j) a)] rfl rfl ?c1 ?c2 ?c3 ?c4 ?c5 ?_))
   case c1=>exact cell_two_new _ _ _ _
   case c2=>simp[Value.oneCell']
   case c3=>unfold maxLen;omega
   case c4=>omega
   case c5=>simp;omega
   intro v' w5 hown5 hg5 _;have hbw5:Below w.heap.size w w5:=((hbw.trans (hb4.mono hsz)).alloc (by omega) _).grown hg5 (by simp;omega) (fun k hk=>(hown4.lt k hk).1);clear hown4 hg5 hb4
   go_wp2
   go_roundw
   case rel=>exact⟨j+1,by omega,by go_num,hown5,hbw5⟩
   case measure=>simp[intOf];omega
  go_wp2
  obtain rfl:j=n:=by omega
  go_ret2
  exact⟨_,rfl,by rw[HP.out.1,HP.out.2,<-HN.out];exact hown,hbw⟩
theorem eown_form {w:World} {base size n:Nat} {e:TypeId} {v:Value} {xs:List Value} (h:w.ownsRow base e size v n xs) (hn:0<n) :
 ∃g cap,v=.slice (some ⟨g,0,none⟩) n cap/\base<=g/\g<w.heap.size/\n<=cap/\cap<=9223372036854775807/\∀j u,xs[j]?=some u->w.cell? ⟨g,j,none⟩=some u:=by
 rcases h.2 with ⟨_,rfl⟩|⟨g,cap,cur,rfl,hb,hh,hc,hm,_⟩
 ·omega
 refine⟨g,cap,rfl,hb,(Array.getElem?_eq_some_iff.1 hh).1,hc,by unfold maxLen at hm;omega,fun j u hu=>?_⟩;have h1:j<n * size:=by
  have:=(List.getElem?_eq_some_iff.1 hu).1
  rw[h.1] at this;exact this
 rw[h.cellAt j h1];exact hu
theorem ewire_any (t:Int) (h0:-1152921504606846976<=t) (h1:t<=1152921504606846976) (w:World) :
 Calls prog 117 #[.int .i64 t] w fun e w'=>e=.returned (.tuple #[.int .u64 ((t * 4096) % 18446744073709551616),.int .i64 0])/\w=w':=by
 have hv:vT t=true:=by unfold vT;simp;omega
 go_enter func117,ntmps117
 go_wp2_with (go_at_call 176;refine (validt_any _ _).mono ?_;rw[hv];rintro e w' ⟨rfl,rfl⟩)
 go_ret2
 exact⟨by simp only[IntKind.wrap_u64];rw[show (t % 18446744073709551616 * 4096) % 18446744073709551616=t * 4096 % 18446744073709551616 from by omega];rfl,rfl⟩
end Go.Proofs.YtjgepckncogdaaaGreat
