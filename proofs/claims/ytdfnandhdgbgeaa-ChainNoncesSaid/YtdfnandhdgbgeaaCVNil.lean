/- Contract of chain.Verify of no links. No conditions. -/
import Derived.Test.YtdfnandhdgbgeaaNonce
namespace Go.Proofs.Ytdfnandhdgbgeaa
open Go Go.RowKit
set_option linter.unusedVariables false
attribute [local go_sem ↓] Go.wp_at_zero Go.wp_at_succ
set_option maxRecDepth 100000 in
theorem followed_none (n : Nat) (B : Nat) (w : World) (hB : B < w.heap.size) (hc : w.cell? ⟨B, 0, none⟩ = some (.slice none 0 0)) :
    SeqStopsK Fence.wide n Try.prog 94 #[.pointer (some ⟨B, 0, none⟩)] (fun k : Empty => k.elim) (Below w.heap.size) (fun ys => True) (fun pre => True) 0 w := fun l J Jx W hW hJ _ hY h0 => by
  have hc2 := (hW.cell (p := ⟨B, 0, none⟩) hB).trans hc
  clear hc hY
  refine callsIn_of_wp Try.func94 rfl trivial ?_ rfl
  simp only [Try.ntmps94, List.size_toArray, List.length_cons, List.length_nil, Nat.reduceAdd, Nat.reduceSub, Array.replicate_succ, Array.replicate_zero, List.push_toArray, List.append_toArray, List.nil_append, List.cons_append]
  gi_wp2
  gi_loopw [7] (fun i wr => i = .int .i64 0 ∧ J [] wr ∧ wr = W) (fun i _ => 0)
  case atStart => exact ⟨rfl, h0, rfl⟩
  case round =>
    obtain ⟨rfl, hJ1, rfl⟩ := hrel
    gi_wp2
    go_end0
    exact ⟨⟨_, rfl⟩, .inl ⟨_, trivial, hJ1⟩⟩
set_option maxRecDepth 100000 in
theorem followed_any (A : Option Addr) (n c : Nat) (w : World) : Calls Try.prog 60 #[.slice A n c] w fun e w' => e = .returned (.func (.func 94) #[] #[.pointer (some ⟨w.heap.size, 0, none⟩)]) ∧ w' = w.alloc (.cells #[.slice A n c] 32) := by
  go_enter Try.func60, Try.ntmps60
  go_wp2_with fail
  go_ret
  exact ⟨rfl, rfl⟩
def VNil (w : World) (e : Ending) (w' : World) : Prop := e = .returned (.tuple #[.slice none 0 0, .int .i64 0]) ∧ Below w.heap.size w w'
set_option maxRecDepth 100000 in
set_option maxHeartbeats 2000000 in
theorem cverify_in (w : World) : CallsIn Fence.wide 3 Try.prog 30 #[.slice none 0 0] w (VNil w) := by
  refine callsIn_of_wp_marks Try.func30 rfl trivial ?_ rfl
  simp only [Try.ntmps30, List.size_toArray, List.length_cons, List.length_nil, Nat.reduceAdd, Nat.reduceSub, Array.replicate_succ, Array.replicate_zero, List.push_toArray, List.append_toArray, List.nil_append, List.cons_append]
  gi_wp2
  have hb3 := bgo (bgo (balloc w (.cells #[.slice none 0 0] 60)) (balloc _ (.cells #[.int .i64 0] 26))) (balloc _ (.cells #[.slice none 0 0] 60))
  have hx0 := ((Box.new w 60 [.slice none 0 0]).below (balloc _ (.cells #[.int .i64 0] 26))).below (balloc _ (.cells #[.slice none 0 0] 60))
  have hx1 := (Box.new (w.alloc (.cells #[.slice none 0 0] 60)) 26 [.int .i64 0]).below (balloc _ (.cells #[.slice none 0 0] 60))
  have hx2 := Box.new ((w.alloc (.cells #[.slice none 0 0] 60)).alloc (.cells #[.int .i64 0] 26)) 60 [.slice none 0 0]
  rw [World.size_alloc] at hx1
  rw [World.size_alloc, World.size_alloc] at hx2
  change Box (((w.alloc (.cells #[.slice none 0 0] 60)).alloc (.cells #[.int .i64 0] 26)).alloc (.cells #[.slice none 0 0] 60)) _ _ _ at hx0 hx1 hx2
  generalize ((w.alloc (.cells #[.slice none 0 0] 60)).alloc (.cells #[.int .i64 0] 26)).alloc (.cells #[.slice none 0 0] 60) = W3 at *
  refine ⟨trivial, (callsIn_wide.2 (followed_any _ _ _ _)).mono ?_⟩
  rintro e w' ⟨rfl, rfl⟩
  dsimp only
  gi_wp2
  have hal := balloc W3 (.cells #[.slice none 0 0] 32)
  have hx3 := Box.new W3 32 [.slice none 0 0]
  replace hx0 := hx0.below hal
  replace hx1 := hx1.below hal
  replace hx2 := hx2.below hal
  replace hb3 := bgo hb3 hal
  change Box (W3.alloc (.cells #[.slice none 0 0] 32)) _ _ _ at hx0 hx1 hx2 hx3
  generalize W3.alloc (.cells #[.slice none 0 0] 32) = W4 at *
  generalize W3.heap.size = G at *
  refine wpIn_rangeFunc_ownG (α := Empty) rfl (by omega) (gf := 94) (lb := #[.pointer (some ⟨G, 0, none⟩)]) rfl trivial (enters_of Try.func94 (by kernel_rfl) rfl)
    (followed_none 2 G W4 hx3.lt (hx3.cell 0)) belowK_t (belowK_b (Nat.le_refl _)) (Below.refl _ _) (fun x => x.elim)
    (fun _ W => Below W4.heap.size W4 W) (fun _ _ _ => False)
    (ownFrom_below (Nat.le_refl _) (Nat.le_refl _))
    (fun _ _ _ _ _ hs _ _ => hs)
    (Below.refl _ _)
    (fun k => k.elim) ?assign ?body ?done ?stop
  case assign =>
    intro l x
    exact x.elim
  case body =>
    intro l pre x
    exact x.elim
  case done =>
    rintro D ys W hD - hB hK
    have hl0 := hx0.lt
    have hl1 := hx1.lt
    have c2 : W.cell? ⟨w.heap.size + 1 + 1, 0, none⟩ = some (.slice none 0 0) := (hx2.below hB).cell 0
    have c0 : W.cell? ⟨w.heap.size, 0, none⟩ = some (.slice none 0 0) := (hx0.below hB).cell 0
    have c1 : W.cell? ⟨w.heap.size + 1, 0, none⟩ = some (.int .i64 0) := (hx1.below hB).cell 0
    have f0 := (hx0.below hB).frozen 0
    have f1 := (hx1.below hB).frozen 0
    have hbW := bgo hb3 hB
    gi_wp2
    have hne0 : D ≠ w.heap.size := by omega
    have hne1 : D ≠ w.heap.size + 1 := by omega
    have hK' : ((W.setCell ⟨w.heap.size, 0, none⟩ (.slice none 0 0)).setCell ⟨w.heap.size + 1, 0, none⟩ (.int .i64 0)).heap[D]? = some (.deferred (some [])) := by
      rw [Below.heap_setCell _ ⟨w.heap.size + 1, 0, none⟩ _ D hne1, Below.heap_setCell _ ⟨w.heap.size, 0, none⟩ _ D hne0]
      exact hK
    have hbS : Below w.heap.size w ((W.setCell ⟨w.heap.size, 0, none⟩ (.slice none 0 0)).setCell ⟨w.heap.size + 1, 0, none⟩ (.int .i64 0)) := (hbW.setCell (p := ⟨w.heap.size, 0, none⟩) (Nat.le_refl _) _).setCell (p := ⟨w.heap.size + 1, 0, none⟩) (Nat.le_succ _) _
    have hy0 : Box ((W.setCell ⟨w.heap.size, 0, none⟩ (.slice none 0 0)).setCell ⟨w.heap.size + 1, 0, none⟩ (.int .i64 0)) w.heap.size 60 [.slice none 0 0] := ((hx0.below hB).set 0 _).other (by omega)
    have hy1 : Box ((W.setCell ⟨w.heap.size, 0, none⟩ (.slice none 0 0)).setCell ⟨w.heap.size + 1, 0, none⟩ (.int .i64 0)) (w.heap.size + 1) 26 [.int .i64 0] := ((hx1.below hB).other (by omega)).set 0 _
    generalize (W.setCell ⟨w.heap.size, 0, none⟩ (.slice none 0 0)).setCell ⟨w.heap.size + 1, 0, none⟩ (.int .i64 0) = W6 at *
    refine ⟨by simp, .inl ⟨_, _, rfl, run_takeDeferred hK', ?_⟩⟩
    have hD0 : D < W6.heap.size := (Array.getElem?_eq_some_iff.1 hK').1
    have hy2 : Box (W6.putObj D (.deferred none)) w.heap.size 60 [.slice none 0 0] := (World.putObj_heap_other (fun e => hne0 e.symm)).trans hy0
    have hy3 : Box (W6.putObj D (.deferred none)) (w.heap.size + 1) 26 [.int .i64 0] := (World.putObj_heap_other (fun e => hne1 e.symm)).trans hy1
    have hbT : Below w.heap.size w (W6.putObj D (.deferred none)) := hbS.trans (belowK_b (w := w) (Nat.le_refl _) W6 D _ _ (by omega) hK' rfl rfl)
    generalize W6.putObj D (.deferred none) = W7 at *
    have z0 : W7.cell? ⟨w.heap.size, 0, none⟩ = some (.slice none 0 0) := hy2.cell 0
    have z1 : W7.cell? ⟨w.heap.size + 1, 0, none⟩ = some (.int .i64 0) := hy3.cell 0
    exact ⟨.tuple #[.slice none 0 0, .int .i64 0], by simp [results, Try.results30, go_sem, z0, z1], rfl, hbT⟩
  case stop =>
    rintro D c pre W _ _ h _
    exact h.elim
theorem cverify_nil (w : World) : Calls Try.prog 30 #[.slice none 0 0] w (VNil w) := callsIn_wide.1 (cverify_in w)
end Go.Proofs.Ytdfnandhdgbgeaa
