/- Contracts of functions, walks, plain facts. Conditions: those of each theorem. -/
import Derived.Laws.CopyOwn
import Derived.Lib.Hide
import Derived.Maps.AppendAt
import Derived.WalkLawsBesides
import Derived.Handy
import Derived.BigQuiet
import Derived.Deep.OwnRows
import Derived.Deep.RegionHeld3
import Derived.Deep.DrawnRows
import Derived.Test.YtjgepckncogdaaaGreatRows
set_option linter.unusedVariables false
set_option linter.unusedSimpArgs false
set_option maxRecDepth 100000
set_option maxHeartbeats 16000000
namespace Go.Proofs.YtjgepckncogdaaaGreat
open Go Go.RowKit _root_.Go.Proofs.Tryz
theorem lhd {p : Prop} (h : p) : Hid p := Lib.hid h
theorem nlr {a : Nat} : a <= a := Nat.le_refl a
theorem xgd.{u_1} : ∀ {α : Type u_1} {l : List α} {i : Nat} {a : α}, List.getD l i a = Option.getD l[i]? a := @List.getD_eq_getElem?_getD
theorem xge.{u_1} : ∀ {α : Type u_1} {l : List α} {i : Nat} (h : i < List.length l), l[i]? = Option.some l[i] := @List.getElem?_eq_getElem
theorem xtl.{u_1} : ∀ {α : Type u_1} {i : Nat} {l : List α}, List.length l ≤ i → List.take i l = l := @List.take_of_length_le
theorem xsb.{u_1} : ∀ {α : Type u_1} (l : List α) (i : Nat) (a : α), Array.setIfInBounds (List.toArray l) i a = List.toArray (List.set l i a) := @List.setIfInBounds_toArray
theorem xsz.{u_1} : ∀ {α : Type u_1} {x : α} {xs : List α} {a : α}, List.set (x :: xs) 0 a = a :: xs := @List.set_cons_zero
theorem xss.{u_1} : ∀ {α : Type u_1} {x : α} {xs : List α} {i : Nat} {a : α}, List.set (x :: xs) (i + 1) a = x :: List.set xs i a := @List.set_cons_succ
theorem xla.{u_1} : ∀ {α : Type u_1} {l_ bs : List α}, List.length (l_ ++ bs) = List.length l_ + List.length bs := @List.length_append
theorem xsa : ∀ (w : Go.World) (o : Go.Obj), Array.size (Go.World.heap (Go.World.alloc w o)) = Array.size (Go.World.heap w) + 1 := @World.size_alloc
theorem xlt.{u_1} : ∀ {α : Type u_1} {i : Nat} {l : List α}, List.length (List.take i l) = Min.min i (List.length l) := @List.length_take
theorem xld.{u_1} : ∀ {α : Type u_1} {i : Nat} {l : List α}, List.length (List.drop i l) = List.length l - i := @List.length_drop
theorem xgz.{u_1} : ∀ {α : Type u_1} (a : α) (l_ : List α) (h : 0 < List.length (a :: l_)), (a :: l_)[0] = a := @List.getElem_cons_zero
theorem xqs.{u_1} : ∀ {α : Type u_1} {a : α} {i : Nat} {l : List α}, (a :: l)[i + 1]? = l[i]? := @List.getElem?_cons_succ
theorem xqz.{u_1} : ∀ {α : Type u_1} {a : α} {l : List α}, (a :: l)[0]? = Option.some a := @List.getElem?_cons_zero
theorem xgt.{u_1} : ∀ {α : Type u_1} {xs : List α} {i : Nat} (h : i < Array.size (List.toArray xs)), (List.toArray xs)[i] = xs[i] := @List.getElem_toArray
theorem xnc : ∀ (n : Nat), Int.toNat ↑n = n := @Int.toNat_natCast
theorem xmc.{u_1} : ∀ {α : Type u_1} (y : α) {a : α} {l : List α}, a ∈ l → a ∈ y :: l := @List.mem_cons_of_mem
theorem xl1.{u_1} : ∀ {α : Type u_1} {a : α}, List.length [a] = 1 := @List.length_singleton
theorem xm1.{u_1} : ∀ {α : Type u_1} {a b : α}, a ∈ [b] ↔ a = b := @List.mem_singleton
theorem xar.{u_1} : ∀ {α : Type u_1} {l₁ l₂ : List α} {i : Nat}, List.length l₁ ≤ i → (l₁ ++ l₂)[i]? = l₂[i - List.length l₁]? := @List.getElem?_append_right
theorem xal.{u_1} : ∀ {α : Type u_1} {l₁ l₂ : List α} {i : Nat}, i < List.length l₁ → (l₁ ++ l₂)[i]? = l₁[i]? := @List.getElem?_append_left
theorem xgm.{u_1, u_2} : ∀ {α : Type u_1} {β : Type u_2} {f : α → β} {l : List α} {i : Nat}, (List.map f l)[i]? = Option.map f l[i]? := @List.getElem?_map
theorem xlm.{u_1, u_2} : ∀ {α : Type u_1} {β : Type u_2} {l_ : List α} (f : α → β), List.length (List.map f l_) = List.length l_ := @List.length_map
theorem xwi : ∀ (n : Int), Go.IntKind.wrap Go.IntKind.i64 n = (n + 9223372036854775808) % 18446744073709551616 - 9223372036854775808 := @IntKind.wrap_i64
theorem xaa.{u_1} : ∀ {α : Type u_1} (l_ bs cs : List α), l_ ++ bs ++ cs = l_ ++ (bs ++ cs) := @List.append_assoc
theorem xfc.{u_1} : ∀ {α : Type u_1} {l : List α} {L : List (List α)}, List.flatten (l :: L) = l ++ List.flatten L := @List.flatten_cons
theorem xmp.{u_1, u_2} : ∀ {α : Type u_1} {β : Type u_2} {f : α → β} {a : α} {l : List α}, List.map f (a :: l) = f a :: List.map f l := @List.map_cons
theorem xlc.{u_1} : ∀ {α : Type u_1} {a : α} {l_ : List α}, List.length (a :: l_) = List.length l_ + 1 := @List.length_cons
theorem xgx.{u_1} : ∀ {α : Type u_1} {l : List α} {n : Nat} (h : n < List.length l), l[n] ∈ l := @List.getElem_mem
def byV (b:UInt8):Value:=.int .u8 (b.toNat:Int)
theorem ret_int {k:IntKind} {a b:Int} (h:a=b):Ending.returned (.int k a)=.returned (.int k b):=by rw[h]
theorem ret_bool {a b:Bool} (h:a=b):Ending.returned (.bool a)=.returned (.bool b):=by rw[h]
theorem below_drewN {B:Nat} {a w:World} (h:Below B a w) (n:Nat):Below B a (w.drewN n):=⟨h.os,h.tape,h.output,h.size,h.block⟩
theorem grown_of_below {w w':World} (h:Below w.heap.size w w') (row:Option Nat):w.grownBy w' row:=⟨h.os,h.tape,h.output,h.size,fun k hk _=>h.block k hk⟩
theorem own_below {w w':World} {base size n:Nat} {e:TypeId} {v:Value} {xs:List Value} (h:w.ownsRow base e size v n xs) (hb:Below w.heap.size w w'):w'.ownsRow base e size v n xs:=
 h.kept (grown_of_below hb none) (by cases v.ownBlock<;>simp)
theorem add_zero' (b o k:Nat):(⟨b,o,none⟩:Addr).add k=⟨b,o+k,none⟩:=by
 unfold Addr.add;split
 ·subst_vars;rfl
 rfl
theorem quiet_on {P:Program} {f:FuncId} {args:Array Value} {w:World} {a n:Nat} {v:Value} (h:Calls P f args (w.drewN (a+n)) fun e w'=>e=.returned v/\w'=w.drewN (a+n)) :
 Calls P f args (w.drewN (a+n)) fun e w'=>e=.returned v/\∃m,w'=w.drewN (a+m):=h.mono fun _ _ ⟨he,hw⟩=>⟨he,n,hw⟩
theorem set_block (w:World) (g o:Nat) (v:Value) {cs:Array Value} {T:TypeId} (h:w.heap[g]?=some (.cells cs T)):(w.setCell ⟨g,o,none⟩ v).heap[g]?=some (.cells (cs.setIfInBounds o v) T):=by
 simp[World.setCell,Array.getElem?_modify,h]
theorem block_cell {w:World} {g:Nat} {l:List Value} {T:TypeId} (h:w.heap[g]?=some (.cells l.toArray T)) (j:Nat):w.cell? ⟨g,j,none⟩=l[j]?:=by
 rw[cell_of_row w g j _ _ _ h];simp
theorem take_cells {w:World} {g n:Nat} {l:List Value} {T:TypeId} (h:w.heap[g]?=some (.cells l.toArray T)) (j:Nat) (v:Value) (hj:(l.take n)[j]?=some v):w.cell? ((⟨g,0,none⟩:Addr).add j)=some v:=by
 rw[add_zero',Nat.zero_add,block_cell h];rw[List.getElem?_take] at hj
 split at hj
 ·exact hj
 cases hj
theorem grown_drew {a w:World} {row:Option Nat} (h:a.grownBy w row):a.grownBy w.drew row:=⟨h.os,h.tape,h.output,h.size,h.block⟩
theorem only_setCell {a w:World} {g:Nat} (h:a.grownBy w (some g)) {p:Addr} (hp:p.block=g\/a.heap.size<=p.block) (u:Value):a.grownBy (w.setCell p u) (some g):=
 ⟨h.os,h.tape,h.output,by simpa [World.setCell] using h.size,fun i hi hne=>(Below.heap_setCell w p u i (fun e=>by
  subst e;rcases hp with hp|hp
  ·exact hne (by rw[hp])
  omega)).trans (h.block i hi hne)⟩
def Sees (w:World) (B:Nat) (v:Value) (size n:Nat) (xs:List Value):Prop:=
 xs.length=n * size/\∃A c,v=.slice A n c/\n<=c/\c<=maxLen /\
  (0<n->∃b o,A=some ⟨b,o,none⟩/\b<B/\∀j u,xs[j]?=some u->w.cell? ⟨b,o+j,none⟩=some u)
section
variable {w w':World} {B B' size n:Nat} {v:Value} {xs:List Value}
theorem Sees.nil (w:World) (B size:Nat):Sees w B (.slice none 0 0) size 0 []:=⟨by simp,none,0,rfl,Nat.le_refl _,Nat.zero_le _,fun h=>absurd h (by omega)⟩
theorem Sees.len (h:Sees w B v size n xs):xs.length=n * size:=h.1
theorem Sees.mk_ (h:Sees w B v size n xs):∃A c,v=.slice A n c/\n<=c/\c<=maxLen:=by
 obtain⟨_,A,c,hv,h1,h2,_⟩:=h;exact⟨A,c,hv,h1,h2⟩
theorem Sees.at_ {A:Option Addr} {c:Nat} (h:Sees w B (.slice A n c) size n xs) (hn:0<n):∃b o,A=some ⟨b,o,none⟩/\b<B/\∀j u,xs[j]?=some u->w.cell? ⟨b,o+j,none⟩=some u:=by
 obtain⟨_,A',c',hv,_,_,h3⟩:=h;injection hv with e1 e2 e3;subst e1;exact h3 hn
theorem Sees.keep (h:Sees w B v size n xs) (hk:∀p:Addr,p.block<B->w'.cell? p=w.cell? p):Sees w' B v size n xs:=by
 obtain⟨h0,A,c,hv,h1,h2,h3⟩:=h;refine⟨h0,A,c,hv,h1,h2,fun hn=>?_⟩;obtain⟨b,o,e,hb,hc⟩:=h3 hn;exact⟨b,o,e,hb,fun j u hu=>(hk _ hb).trans (hc j u hu)⟩
theorem Sees.more (h:Sees w B v size n xs) (hB:B<=B'):Sees w B' v size n xs:=by
 obtain⟨h0,A,c,hv,h1,h2,h3⟩:=h;refine⟨h0,A,c,hv,h1,h2,fun hn=>?_⟩;obtain⟨b,o,e,hb,hc⟩:=h3 hn;exact⟨b,o,e,by omega,hc⟩
theorem Sees.below (h:Sees w B v size n xs) (hb:Below B w w'):Sees w' B v size n xs:=h.keep fun _ hp=>hb.cell hp
theorem Sees.drewN (h:Sees w B v size n xs) (k:Nat):Sees (w.drewN k) B v size n xs:=h
theorem Sees.drew (h:Sees w B v size n xs):Sees w.drew B v size n xs:=h
theorem Sees.alloc (h:Sees w B v size n xs) (hB:B<=w.heap.size) (o:Obj):Sees (w.alloc o) B v size n xs:=h.keep fun p hp=>World.cell?_alloc_lt w o p (by omega)
theorem Sees.setCell (h:Sees w B v size n xs) {p:Addr} (hB:B<=p.block) (u:Value):Sees (w.setCell p u) B v size n xs:=
 h.keep fun q hq=>World.cell?_setCell_other w p q u (fun e=>by subst e;omega)
theorem Sees.grown (h:Sees w B v size n xs) {row:Option Nat} (hg:w.grownBy w' row) (hB:B<=w.heap.size) (hr:∀g,row=some g->B<=g):Sees w' B v size n xs:=
 h.keep fun p hp=>World.cell?_of_block (hg.block p.block (by omega) (fun e=>by have:=hr _ e.symm;omega))
theorem Sees.of_own {base:Nat} {e:TypeId} (h:w.ownsRow base e size v n xs):Sees w w.heap.size v size n xs:=by
 refine⟨h.1,?_⟩;rcases h.2 with ⟨rfl,rfl⟩|⟨g,cap,cur,rfl,hb,hh,hc,hm,hcur,htake⟩
 ·exact⟨none,0,rfl,Nat.le_refl _,Nat.zero_le _,fun h=>absurd h (by omega)⟩
 refine⟨_,cap,rfl,hc,hm,fun hn=>⟨g,0,rfl,(Array.getElem?_eq_some_iff.1 hh).1,fun j u hu=>?_⟩⟩;have h1:j<n * size:=by
  have:=(List.getElem?_eq_some_iff.1 hu).1
  rw[h.1] at this;exact this
 rw[Nat.zero_add,h.cellAt j h1];exact hu
def cutA (A:Option Addr) (c l size:Nat):Option Addr:=if c=l then A else A.map (·.add (l * size))
theorem Sees.cut {A:Option Addr} {c l h':Nat} (h:Sees w B (.slice A n c) size n xs) (hl:l<=h') (hh:h'<=n) :
 Sees w B (.slice (cutA A c l size) (h' - l) (c - l)) size (h' - l) ((xs.drop (l * size)).take ((h' - l) * size)):=by
 have hl0:=h.1;obtain⟨_,A',c',hv,h1,h2,h3⟩:=h;injection hv with e1 e2 e3;subst e1 e3;refine⟨?_,_,_,rfl,by omega,by unfold maxLen at *;omega,fun hn=>?_⟩
 ·rw[xlt,xld,hl0]
  have:(h' - l) * size<=n * size - l * size:=by rw[<-Nat.sub_mul];exact Nat.mul_le_mul_right _ (by omega)
  omega
 obtain⟨b,o,e,hb,hc⟩:=h3 (by omega);refine⟨b,o+l * size,?_,hb,fun j u hu=>?_⟩
 ·unfold cutA
  rw[if_neg (by omega),e,Option.map_some,add_zero']
 ·have hj:j<(h' - l) * size:=by
   have:=(List.getElem?_eq_some_iff.1 hu).1
   rw[xlt] at this;omega
  rw[List.getElem?_take,if_pos hj,List.getElem?_drop] at hu
  have:=hc _ _ hu
  rw[<-this,Nat.add_assoc]
end
section
variable {P:Program}
theorem run_cut (t:TypeId) (ht:P.underlying t=some (.slice (P.elem t))) (size:Nat) (hs:∀w,(sizeOf (P.elem t)).run P w=.ok size w) (A:Option Addr) (n c:Nat) (kl kh:IntKind) (l h:Int) (h0:0<=l) (h1:l<=h) (h2:h<=c) (w:World) :
 (Instr.slice t (.slice A n c) (some (.int kl l)) (some (.int kh h)) none).run P w=.ok (.slice (cutA A c l.toNat size) (h.toNat - l.toNat) (c - l.toNat)) w:=by
 rw[run_slice_lh w t A n c ht kl kh l h h0 h1 h2,hs];rfl
theorem run_cut_from (t:TypeId) (ht:P.underlying t=some (.slice (P.elem t))) (size:Nat) (hs:∀w,(sizeOf (P.elem t)).run P w=.ok size w) (A:Option Addr) (n c:Nat) (kl:IntKind) (l:Int) (h0:0<=l) (h1:l<=n) (w:World) :
 (Instr.slice t (.slice A n c) (some (.int kl l)) none none).run P w=.ok (.slice (cutA A c l.toNat size) (n - l.toNat) (c - l.toNat)) w:=by
 rw[run_slice_l w t A n c ht kl l h0 h1,hs];rfl
theorem run_cut_to (t:TypeId) (ht:P.underlying t=some (.slice (P.elem t))) (size:Nat) (hs:∀w,(sizeOf (P.elem t)).run P w=.ok size w) (A:Option Addr) (n c:Nat) (kh:IntKind) (h:Int) (h0:0<=h) (h2:h<=c) (w:World) :
 (Instr.slice t (.slice A n c) none (some (.int kh h)) none).run P w=.ok (.slice (cutA A c 0 size) (h.toNat - 0) (c - 0)) w:=by
 rw[run_slice_h w t A n c ht kh h h0 h2,hs];rfl
theorem run_append_sees (w:World) (base:Nat) (t ty e:TypeId) (i:TypeInfo) (z:Value) (size bytes:Nat) (ht:P.underlying t=some (.slice e)) (hi:P.info? e=some i) (hz:i.zero=some z)
 (hsize:i.size=size) (hby:i.bytes=bytes) (hzs:z.cells.size=size) (hsz:0<size)
 (v:Value) (n:Nat) (xs:List Value) (hown:w.ownsRow base e size v n xs)
 (B:Nat) (u:Value) (m:Nat) (news:List Value) (hs:Sees w B u size m news) (h1:∀u∈news,u.oneCell'=true)
 (h63:n+m<=maxLen) (hbytes:(n+m) * bytes<=140737488355328) (hbase:base<=w.heap.size) :
 ∃v' w',(Builtin.append_ #[t,t] ty #[v,u]).run P w=.ok v' w'/\w'.ownsRow base e size v' (n+m) (xs++news)/\w.grownBy w' v.ownBlock /\
  (v'.ownBlock=v.ownBlock\/v'.ownBlock=some w.heap.size):=by
 have hl:=hs.1;obtain⟨_,A,c,rfl,hc1,hc2,h3⟩:=hs;rcases Nat.eq_zero_or_pos m with h0|h0
 ·subst h0
  have hn:news=[]:=List.eq_nil_of_length_eq_zero (by simpa using hl);subst hn;rcases A with _|ad
  ·refine⟨v,w,?_,by simpa using hown,⟨rfl,rfl,rfl,Nat.le_refl _,fun _ _ _=>rfl⟩,.inl rfl⟩
   rcases hown.2 with ⟨rfl,rfl⟩|⟨g,cap,cur,rfl,_,_,hnc,_⟩
   ·simp[Builtin.append_,run_underlying ht,sizeOf,typeInfo,hi,Builtin.lenOf,Builtin.firstCells]
   simp[Builtin.append_,run_underlying ht,sizeOf,typeInfo,hi,Builtin.lenOf,Builtin.firstCells,hnc,storeCells]
  obtain⟨v',w',hrun,h2,h3,_,h5⟩:=run_append_own_at (P:=P) w base t ty e i z size bytes ht hi hz hsize hby hzs hsz v n xs hown ad 0 c [] (by simp) (by simp) (by simp) h63 hbytes hbase;exact⟨v',w',hrun,h2,h3,h5⟩
 obtain⟨b,o,rfl,hb,hc⟩:=h3 h0;obtain⟨v',w',hrun,h2,h3,_,h5⟩:=run_append_own_at (P:=P) w base t ty e i z size bytes ht hi hz hsize hby hzs hsz v n xs hown ⟨b,o,none⟩ m c news hl (fun j u hu=>by rw[add_zero'];exact hc j u hu) h1 h63 hbytes hbase;exact⟨v',w',hrun,h2,h3,h5⟩
theorem wp_append_sees {o:Oper} {a:Act} {w:World} {K:Act->World->Prop} {Q:Exit->Act->World->Prop} (s x:Operand) (t:TypeId)
 (ho:o.op=.call { callee:=.builtin .append,args:=#[s,x],argTypes:=#[t,t] })
 (base:Nat) (e:TypeId) (i:TypeInfo) (z:Value) (size bytes:Nat) (ht:P.underlying t=some (.slice e)) (hi:P.info? e=some i) (hz:i.zero=some z)
 (hsize:i.size=size) (hby:i.bytes=bytes) (hzs:z.cells.size=size) (hsz:0<size)
 (v:Value) (n:Nat) (xs:List Value) (hs:a.eval s=v) (hown:w.ownsRow base e size v n xs)
 (B:Nat) (u:Value) (m:Nat) (news:List Value) (hx:a.eval x=u) (hr:Sees w B u size m news) (h1:∀u∈news,u.oneCell'=true)
 (h63:n+m<=maxLen) (hbytes:(n+m) * bytes<=140737488355328) (hbase:base<=w.heap.size)
 (h:∀v' w',w'.ownsRow base e size v' (n+m) (xs++news)->w.grownBy w' v.ownBlock->(v'.ownBlock=v.ownBlock\/v'.ownBlock=some w.heap.size)->K (a.put o.dst v') w'):o.wp P a w K Q:=by
 obtain⟨v',w',hrun,h2,h3,h4⟩:=run_append_sees (P:=P) w base t o.type e i z size bytes ht hi hz hsize hby hzs hsz v n xs hown B u m news hr h1 h63 hbytes hbase;unfold Oper.wp execOp;simp only[ho,resolve,invoke,builtin,Sem.run_bind,Sem.run_pure,Result.andThen_ok,List.map_toArray,xmp,List.map_nil,hs,hx,hrun];exact h v' w' h2 h3 h4
theorem wpList_append_sees {ops:Array Oper} {rest:List Oper} {o:Oper} {a:Act} {w:World} {Q:Exit->Act->World->Prop} (hgd:Region.wanted o (yielded ops a.tmps)=true) (s x:Operand) (t:TypeId)
 (ho:o.op=.call { callee:=.builtin .append,args:=#[s,x],argTypes:=#[t,t] })
 (base:Nat) (e:TypeId) (i:TypeInfo) (z:Value) (size bytes:Nat) (ht:P.underlying t=some (.slice e)) (hi:P.info? e=some i) (hz:i.zero=some z)
 (hsize:i.size=size) (hby:i.bytes=bytes) (hzs:z.cells.size=size) (hsz:0<size)
 (v:Value) (n:Nat) (xs:List Value) (hs:a.eval s=v) (hown:w.ownsRow base e size v n xs)
 (B:Nat) (u:Value) (m:Nat) (news:List Value) (hx:a.eval x=u) (hr:Sees w B u size m news) (h1:∀u∈news,u.oneCell'=true)
 (h63:n+m<=maxLen) (hbytes:(n+m) * bytes<=140737488355328) (hbase:base<=w.heap.size)
 (h:∀v' w',w'.ownsRow base e size v' (n+m) (xs++news)->w.grownBy w' v.ownBlock->(v'.ownBlock=v.ownBlock\/v'.ownBlock=some w.heap.size)->wpList P ops Q rest (a.put o.dst v') w'):wpList P ops Q (o :: rest) a w:=
 BigFrame.wpList_want hgd fun _ hK=>wp_append_sees s x t ho base e i z size bytes ht hi hz hsize hby hzs hsz v n xs hs hown B u m news hx hr h1 h63 hbytes hbase fun v' w' h2 h3 h4=>hK _ _ (h v' w' h2 h3 h4)
end
abbrev Wd:=BitVec 32
def wdV (a:Wd):Value:=.int .u32 (a.toNat:Int)
theorem wd_lt (a:Wd):(a.toNat:Int)<4294967296:=by have:=a.isLt;omega
theorem wd_add (a b:Wd):IntKind.u32.wrap ((a.toNat:Int)+(b.toNat:Int))=((a+b).toNat:Int):=by
 rw[IntKind.wrap_u32,BitVec.toNat_add];omega
theorem wd_xor (a b:Wd):bits .xor .u32 (a.toNat:Int) (b.toNat:Int)=((a ^^^ b).toNat:Int):=by
 rw[u32_xor_nat _ _ a.isLt b.isLt,BitVec.toNat_xor]
theorem wd_and (a b:Wd):bits .and .u32 (a.toNat:Int) (b.toNat:Int)=((a &&& b).toNat:Int):=by
 rw[u32_and_nat _ _ a.isLt b.isLt,BitVec.toNat_and]
theorem wd_or (a b:Wd):bits .or .u32 (a.toNat:Int) (b.toNat:Int)=((a ||| b).toNat:Int):=by
 rw[u32_or_nat _ _ a.isLt b.isLt,BitVec.toNat_or]
theorem wd_shr (a:Wd) (k:Nat) (m:Int) (h:m=((2 ^ k:Nat):Int)):(a.toNat:Int) / m=((a >>> k).toNat:Int):=by
 subst h;rw[BitVec.toNat_ushiftRight,Nat.shiftRight_eq_div_pow];exact (Int.natCast_ediv _ _).symm
theorem wd_shl (a:Wd) (k:Nat) (m:Int) (h:m=((2 ^ k:Nat):Int)):IntKind.u32.wrap ((a.toNat:Int) * m)=((a <<< k).toNat:Int):=by
 subst h;rw[IntKind.wrap_u32,BitVec.toNat_shiftLeft,Nat.shiftLeft_eq,<-Int.natCast_mul]
 omega
theorem wd_shl' (a:Wd) (k:Nat) (m:Int) (h:m=((2 ^ k:Nat):Int)):(a.toNat:Int) * m % 4294967296=((a <<< k).toNat:Int):=by
 rw[<-wd_shl a k m h,IntKind.wrap_u32]
theorem wd_add' (a b:Wd):((a.toNat:Int)+(b.toNat:Int)) % 4294967296=((a+b).toNat:Int):=by
 rw[<-wd_add,IntKind.wrap_u32]
abbrev Bs:=List UInt8
def putB:Nat->Nat->Bs
 | 0,_=>[]
 | n+1,v=>putB n (v / 256)++[UInt8.ofNat v]
theorem putB_len (n v:Nat):(putB n v).length=n:=by
 induction n generalizing v with
 | zero=>rfl
 | succ n ih=>simp[putB,ih]
def getB (l:Bs):Nat:=l.foldl (fun v x=>(v * 256+x.toNat) % 18446744073709551616) 0
structure St where
 a:Wd
 b:Wd
 c:Wd
 d:Wd
 e:Wd
 f:Wd
 g:Wd
 h:Wd
def rotr (x:Wd) (k:Nat):Wd:=(x <<< (32 - k)) ||| (x >>> k)
def kTab:List Wd:=[0x428a2f98,0x71374491,0xb5c0fbcf,0xe9b5dba5,0x3956c25b,0x59f111f1,0x923f82a4,0xab1c5ed5,
 0xd807aa98,0x12835b01,0x243185be,0x550c7dc3,0x72be5d74,0x80deb1fe,0x9bdc06a7,0xc19bf174,
 0xe49b69c1,0xefbe4786,0x0fc19dc6,0x240ca1cc,0x2de92c6f,0x4a7484aa,0x5cb0a9dc,0x76f988da,
 0x983e5152,0xa831c66d,0xb00327c8,0xbf597fc7,0xc6e00bf3,0xd5a79147,0x06ca6351,0x14292967,
 0x27b70a85,0x2e1b2138,0x4d2c6dfc,0x53380d13,0x650a7354,0x766a0abb,0x81c2c92e,0x92722c85,
 0xa2bfe8a1,0xa81a664b,0xc24b8b70,0xc76c51a3,0xd192e819,0xd6990624,0xf40e3585,0x106aa070,
 0x19a4c116,0x1e376c08,0x2748774c,0x34b0bcb5,0x391c0cb3,0x4ed8aa4a,0x5b9cca4f,0x682e6ff3,
 0x748f82ee,0x78a5636f,0x84c87814,0x8cc70208,0x90befffa,0xa4506ceb,0xbef9a3f7,0xc67178f2]
def kAt (t:Nat):Wd:=kTab.getD t 0
def st0:St:=⟨0x6a09e667,0xbb67ae85,0x3c6ef372,0xa54ff53a,0x510e527f,0x9b05688c,0x1f83d9ab,0x5be0cd19⟩
def sig0 (x:Wd):Wd:=rotr x 7 ^^^ rotr x 18 ^^^ (x >>> 3)
def sig1 (x:Wd):Wd:=rotr x 17 ^^^ rotr x 19 ^^^ (x >>> 10)
def sched (m:Nat->Wd) (t:Nat):Wd:=if t<16 then m t else sig1 (sched m (t - 2))+sched m (t - 7)+sig0 (sched m (t - 15))+sched m (t - 16)
termination_by t
def rnd (s:St) (k w:Wd):St:=
 let t1:=s.h+(rotr s.e 6 ^^^ rotr s.e 11 ^^^ rotr s.e 25)+((s.e &&& s.f) ^^^ (~~~s.e &&& s.g))+k+w
 let t2:=(rotr s.a 2 ^^^ rotr s.a 13 ^^^ rotr s.a 22)+((s.a &&& s.b) ^^^ (s.a &&& s.c) ^^^ (s.b &&& s.c))
 ⟨t1+t2,s.a,s.b,s.c,s.d+t1,s.e,s.f,s.g⟩
def rnds (s:St) (w:Nat->Wd):Nat->St
 | 0=>s
 | n+1=>rnd (rnds s w n) (kAt n) (w n)
def addSt (s v:St):St:=⟨s.a+v.a,s.b+v.b,s.c+v.c,s.d+v.d,s.e+v.e,s.f+v.f,s.g+v.g,s.h+v.h⟩
def word4 (a b c d:UInt8):Wd:=(BitVec.ofNat 32 a.toNat <<< 24) ||| (BitVec.ofNat 32 b.toNat <<< 16) ||| (BitVec.ofNat 32 c.toNat <<< 8) ||| BitVec.ofNat 32 d.toNat
def wordAt (bs:Bs) (t:Nat):Wd:=word4 (bs.getD (4 * t) 0) (bs.getD (4 * t+1) 0) (bs.getD (4 * t+2) 0) (bs.getD (4 * t+3) 0)
def compress (s:St) (bs:Bs):St:=addSt s (rnds s (sched (wordAt bs)) 64)
def absorb (s:St) (bs:Bs):Nat->St
 | 0=>s
 | n+1=>compress (absorb s bs n) ((bs.drop (64 * n)).take 64)
def stAt (s:St):Nat->Wd
 | 0=>s.a
 | 1=>s.b
 | 2=>s.c
 | 3=>s.d
 | 4=>s.e
 | 5=>s.f
 | 6=>s.g
 | _=>s.h
def stList (s:St):List Wd:=[s.a,s.b,s.c,s.d,s.e,s.f,s.g,s.h]
def outOf (l:List Wd):Bs:=l.flatMap fun x=>putB 4 x.toNat
def out (s:St):Bs:=outOf (stList s)
def padding (n count:Nat):Bs:=128 :: (List.replicate (if n+9<=64 then 55 - n else 119 - n) 0++putB 8 (count * 8))
def finish (s:St) (rest:Bs) (count:Nat):Bs:=out (absorb s (rest++padding rest.length count) ((rest++padding rest.length count).length / 64))
def sha (bs:Bs):Bs:=finish (absorb st0 bs (bs.length / 64)) (bs.drop (64 * (bs.length / 64))) bs.length
theorem sha_len (bs:Bs):(sha bs).length=32:=by
 simp[sha,finish,out,outOf,stList,putB_len]
def short (bs:Bs):Bs:=(sha bs).take 16
theorem short_len (bs:Bs):(short bs).length=16:=by simp[short,sha_len]
def chainH:Nat->Bs->Bs
 | 0,b=>b
 | n+1,b=>short (chainH n b)
theorem chainH_add (m n:Nat) (b:Bs):chainH m (chainH n b)=chainH (n+m) b:=by
 induction m with
 | zero=>rfl
 | succ m ih=>rw[<-Nat.add_assoc,chainH,chainH,ih]
theorem rot_and (k m:Nat) (h:(k,m)∈[(2,30),(6,26),(7,25),(11,21),(13,19),(17,15),(18,14),(19,13),(22,10),(25,7)]):bits .and .u64 (IntKind.u64.wrap (-(k:Int))) 31=(m:Int):=by
 simp only[List.mem_cons,List.not_mem_nil,or_false,Prod.mk.injEq] at h;rcases h with ⟨rfl,rfl⟩|⟨rfl,rfl⟩|⟨rfl,rfl⟩|⟨rfl,rfl⟩|⟨rfl,rfl⟩|⟨rfl,rfl⟩|⟨rfl,rfl⟩|⟨rfl,rfl⟩|⟨rfl,rfl⟩|⟨rfl,rfl⟩<;>kernel_rfl
theorem rotl_any (x:Wd) (k:Int) (n:Nat) (hk:k=-(n:Int)) (hn:n∈[2,6,7,11,13,17,18,19,22,25]) (w:World) :
 Calls prog 307 #[wdV x,.int .i64 k] w fun e w'=>e=.returned (wdV (rotr x n))/\w=w':=by
 unfold wdV;simp only[List.mem_cons,List.not_mem_nil,or_false] at hn;have hx:=wd_lt x;rcases hn with rfl|rfl|rfl|rfl|rfl|rfl|rfl|rfl|rfl|rfl
 ·have e1:bits .and .u64 (IntKind.u64.wrap (-2)) 31=30:=rot_and 2 30 (by simp)
  subst hk
  go_enter func307,ntmps307
  go_wp2
  go_ret
  exact⟨ret_int (by rw[wd_shl' x 30 _ (by decide),wd_shr x 2 _ (by decide),wd_or];rfl),rfl⟩
 ·have e1:bits .and .u64 (IntKind.u64.wrap (-6)) 31=26:=rot_and 6 26 (by simp)
  subst hk
  go_enter func307,ntmps307
  go_wp2
  go_ret
  exact⟨ret_int (by rw[wd_shl' x 26 _ (by decide),wd_shr x 6 _ (by decide),wd_or];rfl),rfl⟩
 ·have e1:bits .and .u64 (IntKind.u64.wrap (-7)) 31=25:=rot_and 7 25 (by simp)
  subst hk
  go_enter func307,ntmps307
  go_wp2
  go_ret
  exact⟨ret_int (by rw[wd_shl' x 25 _ (by decide),wd_shr x 7 _ (by decide),wd_or];rfl),rfl⟩
 ·have e1:bits .and .u64 (IntKind.u64.wrap (-11)) 31=21:=rot_and 11 21 (by simp)
  subst hk
  go_enter func307,ntmps307
  go_wp2
  go_ret
  exact⟨ret_int (by rw[wd_shl' x 21 _ (by decide),wd_shr x 11 _ (by decide),wd_or];rfl),rfl⟩
 ·have e1:bits .and .u64 (IntKind.u64.wrap (-13)) 31=19:=rot_and 13 19 (by simp)
  subst hk
  go_enter func307,ntmps307
  go_wp2
  go_ret
  exact⟨ret_int (by rw[wd_shl' x 19 _ (by decide),wd_shr x 13 _ (by decide),wd_or];rfl),rfl⟩
 ·have e1:bits .and .u64 (IntKind.u64.wrap (-17)) 31=15:=rot_and 17 15 (by simp)
  subst hk
  go_enter func307,ntmps307
  go_wp2
  go_ret
  exact⟨ret_int (by rw[wd_shl' x 15 _ (by decide),wd_shr x 17 _ (by decide),wd_or];rfl),rfl⟩
 ·have e1:bits .and .u64 (IntKind.u64.wrap (-18)) 31=14:=rot_and 18 14 (by simp)
  subst hk
  go_enter func307,ntmps307
  go_wp2
  go_ret
  exact⟨ret_int (by rw[wd_shl' x 14 _ (by decide),wd_shr x 18 _ (by decide),wd_or];rfl),rfl⟩
 ·have e1:bits .and .u64 (IntKind.u64.wrap (-19)) 31=13:=rot_and 19 13 (by simp)
  subst hk
  go_enter func307,ntmps307
  go_wp2
  go_ret
  exact⟨ret_int (by rw[wd_shl' x 13 _ (by decide),wd_shr x 19 _ (by decide),wd_or];rfl),rfl⟩
 ·have e1:bits .and .u64 (IntKind.u64.wrap (-22)) 31=10:=rot_and 22 10 (by simp)
  subst hk
  go_enter func307,ntmps307
  go_wp2
  go_ret
  exact⟨ret_int (by rw[wd_shl' x 10 _ (by decide),wd_shr x 22 _ (by decide),wd_or];rfl),rfl⟩
 have e1:bits .and .u64 (IntKind.u64.wrap (-25)) 31=7:=rot_and 25 7 (by simp);subst hk
 go_enter func307,ntmps307
 go_wp2
 go_ret
 exact⟨ret_int (by rw[wd_shl' x 7 _ (by decide),wd_shr x 25 _ (by decide),wd_or];rfl),rfl⟩
theorem rotate_any (x:Wd) (k:Int) (n:Nat) (hk:k=(n:Int)) (hn:n∈[2,6,7,11,13,17,18,19,22,25]) (w:World) :
 Calls prog 300 #[wdV x,.int .i64 k] w fun e w'=>e=.returned (wdV (rotr x n))/\w=w':=by
 have hk0:0<=k:=by omega
 have hk1:k<=100:=by simp only[List.mem_cons,List.not_mem_nil,or_false] at hn;omega
 have H:=lhd hk;clear hk
 go_enter func300,ntmps300
 go_wp2_with (go_at_call 307;refine (rotl_any x _ n (by rw[H.out]) hn _).mono ?_;rintro e w' ⟨rfl,rfl⟩)
 go_ret
 exact⟨rfl,rfl⟩
theorem first_any (w:World):Calls prog 252 #[] w fun e w'=>e=.returned (.agg #[wdV st0.a,wdV st0.b,wdV st0.c,wdV st0.d,wdV st0.e,wdV st0.f,wdV st0.g,wdV st0.h])/\Below w.heap.size w w':=by
 go_enter func252,ntmps252
 go_wp2
 go_returns
 exact⟨rfl,by go_grown⟩
theorem tab_of (c:Array Value) (h:c.toList=kTab.map wdV):∀i,i<c.size->c[i]?=some (wdV (kAt i)):=by
 intro i hi;have hl:i<kTab.length:=by have:=congrArg List.length h;simp at this;omega
 rw[<-Array.getElem?_toList,h,xgm,xge hl,Option.map_some,kAt,xgd,xge hl,Option.getD_some]
theorem constants_any (w:World):Calls prog 283 #[] w fun e w'=>e=.returned (.pointer (some ⟨w.heap.size,0,none⟩))/\w'.rowIs w.heap.size 258 64 (fun t=>wdV (kAt t))/\Below w.heap.size w w':=by
 go_enter func283,ntmps283
 go_wp2
 go_ret
 exact⟨rfl,World.rowIs_alloc _ _ _ _ (tab_of _ (by kernel_rfl)),(Below.refl _ _).alloc nlr _⟩
attribute [local go_sem ↓] Go.wp_at_zero Go.wp_at_succ
theorem wd_of (x:UInt8):IntKind.u32.wrap (x.toNat:Int)=((BitVec.ofNat 32 x.toNat).toNat:Int):=by
 have hx:=x.toNat_lt;rw[IntKind.wrap_u32,BitVec.toNat_ofNat];omega
theorem word4_int (a b c d:UInt8):bits .or .u32 (bits .or .u32 (bits .or .u32 ((a.toNat:Int) % 4294967296 * 16777216 % 4294967296) ((b.toNat:Int) % 4294967296 * 65536 % 4294967296)) ((c.toNat:Int) % 4294967296 * 256 % 4294967296)) ((d.toNat:Int) % 4294967296)=((word4 a b c d).toNat:Int):=by
 simp only[<-IntKind.wrap_u32];rw[wd_of,wd_of,wd_of,wd_of,wd_shl _ 24 _ (by decide),wd_shl _ 16 _ (by decide),wd_shl _ 8 _ (by decide),wd_or,wd_or,wd_or]
 rfl
theorem rowIs_rep (w:World) (c:Array Value) (t:TypeId) (v:Value) (n:Nat) (h:c.toList=List.replicate n v):(w.alloc (.cells c t)).rowIs w.heap.size t n (fun _=>v):=by
 have hl:c.size=n:=by have:=congrArg List.length h;simpa using this
 subst hl;exact World.rowIs_alloc w c t _ fun i hi=>by rw[<-Array.getElem?_toList,h,List.getElem?_replicate,if_pos hi]
theorem wp_world {P:Program} {code:Code} {Q:Exit->Act->World->Prop} {a:Act} {w:World} (R:World->Prop) (h1:R w) (h2:∀W,R W->Code.wp P code Q a W):Code.wp P code Q a w:=h2 _ h1
theorem wp_named {P:Program} {code:Code} {Q:Exit->Act->World->Prop} {a:Act} {w:World} {o:Obj} (R:World->Prop) (h1:R (w.alloc o)) (h2:∀W,R W->Code.wp P code Q a W):Code.wp P code Q a (w.alloc o):=h2 _ h1
theorem rotate_any' (x:Wd) (k:Int) (n:Nat) (hk:k=(n:Int)) (hn:n∈[2,6,7,11,13,17,18,19,22,25]) (w:World) :
 Calls prog 300 #[.int .u32 (x.toNat:Int),.int .i64 k] w fun e w'=>e=.returned (.int .u32 ((rotr x n).toNat:Int))/\w=w':=rotate_any x k n hk hn w
theorem sched_eq (m:Nat->Wd) (k:Nat):sched m k=if k<16 then m k else sig1 (sched m (k - 2))+sched m (k - 7)+sig0 (sched m (k - 15))+sched m (k - 16):=by
 rw[sched]
theorem sched_int (x y p q:Wd):(((bits .xor .u32 (bits .xor .u32 ((rotr y 17).toNat:Int) ((rotr y 19).toNat:Int)) ((y.toNat:Int) / 1024)+(p.toNat:Int)) % 4294967296+bits .xor .u32 (bits .xor .u32 ((rotr x 7).toNat:Int) ((rotr x 18).toNat:Int)) ((x.toNat:Int) / 8)) % 4294967296+(q.toNat:Int)) % 4294967296=((sig1 y+p+sig0 x+q).toNat:Int):=by
 rw[wd_shr y 10 _ (by decide),wd_shr x 3 _ (by decide),wd_xor,wd_xor,wd_xor,wd_xor,wd_add',wd_add',wd_add']
 rfl
def stCells (s:St):List Value:=[.int .u32 (s.a.toNat:Int),.int .u32 (s.b.toNat:Int),.int .u32 (s.c.toNat:Int),.int .u32 (s.d.toNat:Int),.int .u32 (s.e.toNat:Int),.int .u32 (s.f.toNat:Int),.int .u32 (s.g.toNat:Int),.int .u32 (s.h.toNat:Int)]
theorem rotate_q (x:Wd) (k:Int) (n:Nat) (hk:k=(n:Int)) (hn:n∈[2,6,7,11,13,17,18,19,22,25]) (w:World) :
 Calls prog 300 #[.int .u32 (x.toNat:Int),.int .i64 k] w fun e w'=>e=.returned (.int .u32 ((rotr x n).toNat:Int))/\w'=w:=(rotate_any x k n hk hn w).mono fun _ _ h=>⟨h.1,h.2.symm⟩
theorem wd_not (x:Wd):bits .xor .u32 IntKind.u32.max (x.toNat:Int)=((~~~x).toNat:Int):=by
 rw[show IntKind.u32.max=((4294967295:Nat):Int) from rfl,show (4294967295:Nat)=(BitVec.allOnes 32).toNat from rfl,wd_xor,BitVec.allOnes_xor]
def tOne (q:St) (k w:Wd):Wd:=q.h+(rotr q.e 6 ^^^ rotr q.e 11 ^^^ rotr q.e 25)+((q.e &&& q.f) ^^^ (~~~q.e &&& q.g))+k+w
def tTwo (q:St):Wd:=(rotr q.a 2 ^^^ rotr q.a 13 ^^^ rotr q.a 22)+((q.a &&& q.b) ^^^ (q.a &&& q.c) ^^^ (q.b &&& q.c))
theorem rnd_eq (q:St) (k w:Wd):rnd q k w=⟨tOne q k w+tTwo q,q.a,q.b,q.c,q.d+tOne q k w,q.e,q.f,q.g⟩:=rfl
theorem tOne_int (q:St) (k w:Wd):((q.h.toNat:Int)+bits .xor .u32 (bits .xor .u32 ((rotr q.e 6).toNat:Int) ((rotr q.e 11).toNat:Int)) ((rotr q.e 25).toNat:Int)+bits .xor .u32 (bits .and .u32 (q.e.toNat:Int) (q.f.toNat:Int)) (bits .and .u32 (bits .xor .u32 IntKind.u32.max (q.e.toNat:Int)) (q.g.toNat:Int))+(k.toNat:Int)+(w.toNat:Int)) % 4294967296=((tOne q k w).toNat:Int):=by
 rw[wd_not,wd_xor,wd_xor,wd_and,wd_and,wd_xor];unfold tOne;rw[<-wd_add',<-wd_add',<-wd_add',<-wd_add']
 omega
theorem tTwo_int (q:St):(bits .xor .u32 (bits .xor .u32 ((rotr q.a 2).toNat:Int) ((rotr q.a 13).toNat:Int)) ((rotr q.a 22).toNat:Int)+bits .xor .u32 (bits .xor .u32 (bits .and .u32 (q.a.toNat:Int) (q.b.toNat:Int)) (bits .and .u32 (q.a.toNat:Int) (q.c.toNat:Int))) (bits .and .u32 (q.b.toNat:Int) (q.c.toNat:Int))) % 4294967296=((tTwo q).toNat:Int):=by
 rw[wd_xor,wd_xor,wd_and,wd_and,wd_and,wd_xor,wd_xor,wd_add']
 rfl
theorem stCells_row {w:World} {g:Nat} {T:TypeId} {q:St} (h:w.heap[g]?=some (.cells (stCells q).toArray T)):w.rowIs g T 8 (fun i=>wdV (stAt q i)):=by
 refine⟨_,h,rfl,fun i hi=>?_⟩
 match i,hi with
 | 0,_=>rfl
 | 1,_=>rfl
 | 2,_=>rfl
 | 3,_=>rfl
 | 4,_=>rfl
 | 5,_=>rfl
 | 6,_=>rfl
 | 7,_=>rfl
theorem addSt_at (s q:St) (i:Nat) (_h:i<8):stAt s i+stAt q i=stAt (addSt s q) i:=by
 match i with
 | 0=>rfl
 | 1=>rfl
 | 2=>rfl
 | 3=>rfl
 | 4=>rfl
 | 5=>rfl
 | 6=>rfl
 | n+7=>rfl
end Go.Proofs.YtjgepckncogdaaaGreat
