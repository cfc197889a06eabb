/- Contracts of functions, walks, plain facts. Conditions: those of each theorem. -/
import Derived.Test.YtjgepckncogdaaaGreatVNonce
import Derived.Test.YtjgepckncogdaaaGreatZC2
set_option linter.unusedVariables false
set_option linter.unusedSimpArgs false
set_option maxRecDepth 100000
set_option maxHeartbeats 16000000
namespace Go.Proofs.YtjgepckncogdaaaGreat
open Go Go.RowKit _root_.Go.Proofs.Tryz
attribute [local go_sem ↓] Go.wp_at_zero Go.wp_at_succ
theorem last_any (B:Nat) (u:Value) (ls:List (Bs × Bs × Bs)) (w:World) (hu:SeesR w B u 3 ls.length (linkS ls)) :
 Calls prog 123 #[u] w fun e w'=>∃v,e=.returned v/\SeesB w B v (lastA ls)/\w'=w:=by
 obtain⟨A,c,rfl,hc1,hc2⟩:=hu.mk_;rcases Nat.eq_zero_or_pos ls.length with h0|h0
 ·have hn:ls=[]:=List.eq_nil_of_length_eq_zero h0
  subst hn
  go_enter func123,ntmps123
  go_wp2_with fail
  go_returns
  exact⟨_,rfl,SeesB.nil _ _,rfl⟩
 obtain⟨m,hm⟩:∃m,ls.length=m+1:=⟨ls.length - 1,by omega⟩
 obtain⟨t,ht⟩:∃t,ls[m]?=some t:=⟨ls[m]'(by omega),xge (by omega)⟩
 obtain⟨b,o,A1,c1,A2,c2,A3,c3,rfl,hb,-,-,-,-,x2,s3⟩:=link_at hu m t ht;have hl:=lhd (lastA_get ls m t hm ht);have i0:¬(ls.length:Int)=0:=by omega
 have i1:(ls.length:Int) - 1=(m:Int):=by omega
 have i2:(m:Int)<(ls.length:Int):=by omega
 unfold maxLen at hc2;have i3:(ls.length:Int)<=9223372036854775807:=by omega
 generalize t.2.2=a at *;replace hm:=lhd hm;replace ht:=lhd ht;replace s3:=lhd s3;clear hu hc1 hc2
 go_enter func123,ntmps123
 go_wp2_with fail
 go_returns
 exact⟨_,rfl,by rw[hl.out];exact s3.out,rfl⟩
theorem next_any (B B2:Nat) (u u2:Value) (ls:List (Bs × Bs × Bs)) (x:Bs) (w:World) (hu:SeesR w B u 3 ls.length (linkS ls)) (hB:B<=w.heap.size) (hu2:SeesB w B2 u2 x) (hB2:B2<=w.heap.size) :
 Calls prog 60 #[u,u2] w (NextP ls x w):=by
 have hla:=lhd (last_any B u ls w hu);have hno:=lhd (fun v (h:SeesB w B v (lastA ls))=>nonce_any B B2 v u2 (lastA ls) x w h hB hu2 hB2);obtain⟨A,c,rfl,hc1,hc2⟩:=hu.mk_;obtain⟨A2,c2,rfl,-,-⟩:=hu2.mk_;clear hu hu2
 by_cases h8:8<=ls.length
 ·have i0:(8:Int)<=(ls.length:Int):=by omega
  go_enter func60,ntmps60
  go_wp2_with fail
  go_returns
  exact next_bad h8 rfl (Below.refl _ _)
 have i0:¬(8:Int)<=(ls.length:Int):=by omega
 go_enter func60,ntmps60
 go_wp2_with fail
 refine hla.out.mono ?_;rintro e w1 ⟨v,rfl,hv,rfl⟩;have hn:=lhd (hno.out v hv);clear hla hno;obtain⟨A3,c3,rfl,-,-⟩:=hv.mk_;dsimp only
 go_wp2_with fail
 refine hn.out.mono ?_;rintro e w2 ⟨v2,rfl,f2,hb2⟩;generalize hC:nonceC (lastA ls) x=C at *;replace hC:=lhd hC;dsimp only
 go_wp2_with fail
 go_returns
 exact next_ok h8 hC.out rfl f2 hb2
end Go.Proofs.YtjgepckncogdaaaGreat
