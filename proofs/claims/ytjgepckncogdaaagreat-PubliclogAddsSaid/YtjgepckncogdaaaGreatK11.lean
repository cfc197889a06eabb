/- Contracts of functions, walks, plain facts. Conditions: those of each theorem. -/
import Derived.Test.YtjgepckncogdaaaGreatK10
set_option linter.unusedVariables false
set_option linter.unusedSimpArgs false
set_option maxRecDepth 100000
set_option maxHeartbeats 16000000
namespace Go.Proofs.YtjgepckncogdaaaGreat
open Go Go.RowKit _root_.Go.Proofs.Tryz
def signAll (seed:Bs) (h n:Int) (m:Bs):Bs × Int × Int × Bs × Int:=
 if validI seed h n=true then
  if n=2 ^ h.toNat then ([],0,0,[],7)
  else (seed,h,n+1,sigG seed h.toNat n.toNat m,0)
 else ([],0,0,[],3)
def SignPost (r:Bs × Int × Int × Bs × Int) (w:World) (e:Ending) (w':World):Prop:=
 ∃v v2,e=.returned (.tuple #[.agg #[v,.int .i64 r.2.1,.int .i64 r.2.2.1],v2,.int .i64 r.2.2.2.2])/\SeesB w' w'.heap.size v r.1/\SeesB w' w'.heap.size v2 r.2.2.2.1/\Below w.heap.size w w'
theorem signBad_post {c:Int} {w w':World} {e:Ending} (h:SignBad c w e w'):SignPost ([],0,0,[],c) w e w':=
 ⟨_,_,h.1,SeesB.nil _ _,SeesB.nil _ _,h.2⟩
theorem signOk_post {seed m:Bs} {h i:Nat} {w w':World} {e:Ending} (hs:SignOk seed h i m w e w'):SignPost (seed,(h:Int),(i:Int)+1,sigG seed h i m,0) w e w':=by
 obtain⟨v,v2,h1,h2,h3,h4⟩:=hs;exact⟨v,v2,by rw[h1];simp,h2,h3,h4⟩
theorem rsign_all (B:Nat) (u u2:Value) (seed m:Bs) (h n:Int) (w:World) (hu:SeesB w B u seed) (hu2:SeesB w B u2 m) (hB:B<=w.heap.size) (hm:m.length<=65535) :
 Calls prog 114 #[.agg #[u,.int .i64 h,.int .i64 n],u2] w (SignPost (signAll seed h n m) w):=by
 by_cases hv:validI seed h n=true
 ·have hh:seed.length=32/\0<=h/\h<=6/\0<=n/\n<=2 ^ h.toNat:=by simp[validI] at hv;omega
  obtain⟨hl,h0,h1,h2,h3⟩:=hh;obtain⟨k,rfl⟩:=Int.eq_ofNat_of_zero_le h0;obtain⟨i,rfl⟩:=Int.eq_ofNat_of_zero_le h2;rw[xnc] at h3;have hpc:((2 ^ k:Nat):Int)=(2:Int) ^ k:=by simp
  by_cases hn:(i:Int)=2 ^ k
  ·have:signAll seed k i m=([],0,0,[],7):=by
    rw[signAll,if_pos hv,if_pos (by rw[xnc];exact hn)]
   rw[this,hn,<-hpc];exact (rsign_bad7 B u u2 seed k w hu hB hl (by omega)).mono fun _ _ h=>signBad_post h
  have:signAll seed k i m=(seed,(k:Int),(i:Int)+1,sigG seed k i m,0):=by simp[signAll,hv,hn]
  rw[this];exact (rsign_ok B u u2 seed m k i w hu hu2 hB hl (by omega) (by omega) hm).mono fun _ _ h=>signOk_post h
 have:signAll seed h n m=([],0,0,[],3):=by simp[signAll,hv]
 rw[this];exact (rsign_bad3 B u u2 seed h n w hu hB (by simpa using hv)).mono fun _ _ h=>signBad_post h
end Go.Proofs.YtjgepckncogdaaaGreat
