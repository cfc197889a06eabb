/- Another leaf at a place makes another root, for trees of up to nine leaves that follow from a number below 1000. No conditions, no program in sight. -/
import Derived.Test.YtpdphpekgphniaaTKW1
import Derived.Test.YtpdphpekgphniaaTKW2
import Derived.Test.YtpdphpekgphniaaTKW3
import Derived.Test.YtpdphpekgphniaaTKW4
namespace Go.Proofs.Ytpdphpekgphniaa.V
open Go
theorem leaf_ne2 (i k v : Nat) (hi : i < 2) (hk : k < 2) (hik : i % 7 ≠ k % 7) (hv : v < 1000) :
    rootG (((List.range 2).map fun c => leafH (leafS (v + c % 7))).set i (leafH (leafS (v + k % 7)))) ≠ rootG ((List.range 2).map fun c => leafH (leafS (v + c % 7))) := by
  have hm : i ∈ [0, 1] := by
    rcases (by omega : i = 0 ∨ i = 1) with rfl | rfl <;> simp
  exact runB_ne 2 _ (by decide) run_2_0 i k v hm hk hik hv
theorem leaf_ne3 (i k v : Nat) (hi : i < 3) (hk : k < 3) (hik : i % 7 ≠ k % 7) (hv : v < 1000) :
    rootG (((List.range 3).map fun c => leafH (leafS (v + c % 7))).set i (leafH (leafS (v + k % 7)))) ≠ rootG ((List.range 3).map fun c => leafH (leafS (v + c % 7))) := by
  have hm : i ∈ [0, 1, 2] := by
    rcases (by omega : i = 0 ∨ i = 1 ∨ i = 2) with rfl | rfl | rfl <;> simp
  exact runB_ne 3 _ (by decide) run_3_0 i k v hm hk hik hv
theorem leaf_ne4 (i k v : Nat) (hi : i < 4) (hk : k < 4) (hik : i % 7 ≠ k % 7) (hv : v < 1000) :
    rootG (((List.range 4).map fun c => leafH (leafS (v + c % 7))).set i (leafH (leafS (v + k % 7)))) ≠ rootG ((List.range 4).map fun c => leafH (leafS (v + c % 7))) := by
  have hm : i ∈ [0, 1, 2, 3] := by
    rcases (by omega : i = 0 ∨ i = 1 ∨ i = 2 ∨ i = 3) with rfl | rfl | rfl | rfl <;> simp
  exact runB_ne 4 _ (by decide) run_4_0 i k v hm hk hik hv
theorem leaf_ne5 (i k v : Nat) (hi : i < 5) (hk : k < 5) (hik : i % 7 ≠ k % 7) (hv : v < 1000) :
    rootG (((List.range 5).map fun c => leafH (leafS (v + c % 7))).set i (leafH (leafS (v + k % 7)))) ≠ rootG ((List.range 5).map fun c => leafH (leafS (v + c % 7))) := by
  have hm : i ∈ [0, 1, 2] ∨ i ∈ [3, 4] := by
    rcases (by omega : i = 0 ∨ i = 1 ∨ i = 2 ∨ i = 3 ∨ i = 4) with rfl | rfl | rfl | rfl | rfl <;> simp
  rcases hm with hm | hm
  · exact runB_ne 5 _ (by decide) run_5_0 i k v hm hk hik hv
  · exact runB_ne 5 _ (by decide) run_5_1 i k v hm hk hik hv
theorem leaf_ne6 (i k v : Nat) (hi : i < 6) (hk : k < 6) (hik : i % 7 ≠ k % 7) (hv : v < 1000) :
    rootG (((List.range 6).map fun c => leafH (leafS (v + c % 7))).set i (leafH (leafS (v + k % 7)))) ≠ rootG ((List.range 6).map fun c => leafH (leafS (v + c % 7))) := by
  have hm : i ∈ [0, 1] ∨ i ∈ [2, 3] ∨ i ∈ [4, 5] := by
    rcases (by omega : i = 0 ∨ i = 1 ∨ i = 2 ∨ i = 3 ∨ i = 4 ∨ i = 5) with rfl | rfl | rfl | rfl | rfl | rfl <;> simp
  rcases hm with hm | hm | hm
  · exact runB_ne 6 _ (by decide) run_6_0 i k v hm hk hik hv
  · exact runB_ne 6 _ (by decide) run_6_1 i k v hm hk hik hv
  · exact runB_ne 6 _ (by decide) run_6_2 i k v hm hk hik hv
theorem leaf_ne7 (i k v : Nat) (hi : i < 7) (hk : k < 7) (hik : i % 7 ≠ k % 7) (hv : v < 1000) :
    rootG (((List.range 7).map fun c => leafH (leafS (v + c % 7))).set i (leafH (leafS (v + k % 7)))) ≠ rootG ((List.range 7).map fun c => leafH (leafS (v + c % 7))) := by
  have hm : i ∈ [0, 1] ∨ i ∈ [2, 3] ∨ i ∈ [4, 5] ∨ i ∈ [6] := by
    rcases (by omega : i = 0 ∨ i = 1 ∨ i = 2 ∨ i = 3 ∨ i = 4 ∨ i = 5 ∨ i = 6) with rfl | rfl | rfl | rfl | rfl | rfl | rfl <;> simp
  rcases hm with hm | hm | hm | hm
  · exact runB_ne 7 _ (by decide) run_7_0 i k v hm hk hik hv
  · exact runB_ne 7 _ (by decide) run_7_1 i k v hm hk hik hv
  · exact runB_ne 7 _ (by decide) run_7_2 i k v hm hk hik hv
  · exact runB_ne 7 _ (by decide) run_7_3 i k v hm hk hik hv
theorem leaf_ne8 (i k v : Nat) (hi : i < 8) (hk : k < 8) (hik : i % 7 ≠ k % 7) (hv : v < 1000) :
    rootG (((List.range 8).map fun c => leafH (leafS (v + c % 7))).set i (leafH (leafS (v + k % 7)))) ≠ rootG ((List.range 8).map fun c => leafH (leafS (v + c % 7))) := by
  have hm : i ∈ [0] ∨ i ∈ [1] ∨ i ∈ [2] ∨ i ∈ [3] ∨ i ∈ [4] ∨ i ∈ [5] ∨ i ∈ [6] ∨ i ∈ [7] := by
    rcases (by omega : i = 0 ∨ i = 1 ∨ i = 2 ∨ i = 3 ∨ i = 4 ∨ i = 5 ∨ i = 6 ∨ i = 7) with rfl | rfl | rfl | rfl | rfl | rfl | rfl | rfl <;> simp
  rcases hm with hm | hm | hm | hm | hm | hm | hm | hm
  · exact runB_ne 8 _ (by decide) run_8_0 i k v hm hk hik hv
  · exact runB_ne 8 _ (by decide) run_8_1 i k v hm hk hik hv
  · exact runB_ne 8 _ (by decide) run_8_2 i k v hm hk hik hv
  · exact runB_ne 8 _ (by decide) run_8_3 i k v hm hk hik hv
  · exact runB_ne 8 _ (by decide) run_8_4 i k v hm hk hik hv
  · exact runB_ne 8 _ (by decide) run_8_5 i k v hm hk hik hv
  · exact runB_ne 8 _ (by decide) run_8_6 i k v hm hk hik hv
  · exact runB_ne 8 _ (by decide) run_8_7 i k v hm hk hik hv
theorem leaf_ne9 (i k v : Nat) (hi : i < 9) (hk : k < 9) (hik : i % 7 ≠ k % 7) (hv : v < 1000) :
    rootG (((List.range 9).map fun c => leafH (leafS (v + c % 7))).set i (leafH (leafS (v + k % 7)))) ≠ rootG ((List.range 9).map fun c => leafH (leafS (v + c % 7))) := by
  have hm : i ∈ [0] ∨ i ∈ [1] ∨ i ∈ [2] ∨ i ∈ [3] ∨ i ∈ [4] ∨ i ∈ [5] ∨ i ∈ [6] ∨ i ∈ [7] ∨ i ∈ [8] := by
    rcases (by omega : i = 0 ∨ i = 1 ∨ i = 2 ∨ i = 3 ∨ i = 4 ∨ i = 5 ∨ i = 6 ∨ i = 7 ∨ i = 8) with rfl | rfl | rfl | rfl | rfl | rfl | rfl | rfl | rfl <;> simp
  rcases hm with hm | hm | hm | hm | hm | hm | hm | hm | hm
  · exact runB_ne 9 _ (by decide) run_9_0 i k v hm hk hik hv
  · exact runB_ne 9 _ (by decide) run_9_1 i k v hm hk hik hv
  · exact runB_ne 9 _ (by decide) run_9_2 i k v hm hk hik hv
  · exact runB_ne 9 _ (by decide) run_9_3 i k v hm hk hik hv
  · exact runB_ne 9 _ (by decide) run_9_4 i k v hm hk hik hv
  · exact runB_ne 9 _ (by decide) run_9_5 i k v hm hk hik hv
  · exact runB_ne 9 _ (by decide) run_9_6 i k v hm hk hik hv
  · exact runB_ne 9 _ (by decide) run_9_7 i k v hm hk hik hv
  · exact runB_ne 9 _ (by decide) run_9_8 i k v hm hk hik hv
theorem leaf_ne (N i k v : Nat) (hN : N ≤ 9) (hi : i < N) (hk : k < N) (hik : i % 7 ≠ k % 7) (hv : v < 1000) :
    rootG (((List.range N).map fun c => leafH (leafS (v + c % 7))).set i (leafH (leafS (v + k % 7)))) ≠ rootG ((List.range N).map fun c => leafH (leafS (v + c % 7))) := by
  rcases (by omega : N = 1 ∨ N = 2 ∨ N = 3 ∨ N = 4 ∨ N = 5 ∨ N = 6 ∨ N = 7 ∨ N = 8 ∨ N = 9) with rfl | rfl | rfl | rfl | rfl | rfl | rfl | rfl | rfl
  · omega
  · exact leaf_ne2 i k v hi hk hik hv
  · exact leaf_ne3 i k v hi hk hik hv
  · exact leaf_ne4 i k v hi hk hik hv
  · exact leaf_ne5 i k v hi hk hik hv
  · exact leaf_ne6 i k v hi hk hik hv
  · exact leaf_ne7 i k v hi hk hik hv
  · exact leaf_ne8 i k v hi hk hik hv
  · exact leaf_ne9 i k v hi hk hik hv
end Go.Proofs.Ytpdphpekgphniaa.V
