/- What the worked-out tables and groups show: a grant of one of 500 keys is no grant under 50 other keys. No conditions, no program in sight. -/
import Derived.Test.YtamdgjgommejjaaGreatDVT1
import Derived.Test.YtamdgjgommejjaaGreatDVT2
import Derived.Test.YtamdgjgommejjaaGreatDVT3
import Derived.Test.YtamdgjgommejjaaGreatDVT4
import Derived.Test.YtamdgjgommejjaaGreatDVR1
import Derived.Test.YtamdgjgommejjaaGreatDVR2
import Derived.Test.YtamdgjgommejjaaGreatDVR3
import Derived.Test.YtamdgjgommejjaaGreatDVR4
import Derived.Test.YtamdgjgommejjaaGreatDVR5
import Derived.Test.YtamdgjgommejjaaGreatDVR6
import Derived.Test.YtamdgjgommejjaaGreatDVR7
import Derived.Test.YtamdgjgommejjaaGreatDVR8
import Derived.Test.YtamdgjgommejjaaGreatDVR9
import Derived.Test.YtamdgjgommejjaaGreatDVR10
import Derived.KernelRfl
namespace Go.Proofs.YtamdgjgommejjaaGreat.V
open Go
set_option linter.unusedVariables false
/-- The key of the height 0 of a number. -/
def keyP (x : Nat) : Bs := leafH (otPublic (seedB (100 + x)) 0)
theorem keyP_len (x : Nat) : (keyP x).length = 32 := sha_len _
theorem runK_at (b : Nat) (hb : b < 12) (h : runK b = true) (x : Nat) (h0 : 125 * b ≤ x) (h1 : x < 125 * b + 125) : tlX keyT0 x = (wordAt (keyP x) 0).toNat ∧ tlX keyT1 x = (wordAt (keyP x) 1).toNat ∧ tlX keyT2 x = (wordAt (keyP x) 2).toNat ∧ tlX keyT3 x = (wordAt (keyP x) 3).toNat ∧ tlX keyT4 x = (wordAt (keyP x) 4).toNat ∧ tlX keyT5 x = (wordAt (keyP x) 5).toNat ∧ tlX keyT6 x = (wordAt (keyP x) 6).toNat ∧ tlX keyT7 x = (wordAt (keyP x) 7).toNat := by
  have hp : pack (fun i => 100 + 125 * b + 1 * i) 125 = pack (fun i => 100 + 125 * b + i % 125) 125 := pack_congr _ _ _ fun i hi => by rw [Nat.mod_eq_of_lt hi]; omega
  unfold runK at h
  dsimp only at h
  rw [seqN_eq, oneV_eq, seqN_eq, seqN_eq, numV_eq, ← msk_of, hp] at h
  have hk := keyX_eq 125 (fun i => 100 + 125 * b + i % 125) (fun i => by have := Nat.mod_lt i (show 0 < 125 by decide); omega) _ h
  have hl : ∀ (T : Nat) (j : Nat), slX T (125 * b) 125 = wd (fun i => wordAt (leafH (otPublic (seedB (100 + 125 * b + i % 125)) 0)) j) 125 → tlX T x = (wordAt (keyP x) j).toNat := fun T j e => by
    rw [slX_eq] at e
    have e2 := congrArg (fun z => (z >>> (64 * (x - 125 * b))) % 18446744073709551616) e
    unfold wd at e2
    dsimp only at e2
    rw [lane 125 (fun i => tlX T (125 * b + i)) (fun i => Nat.mod_lt _ (by decide)) (x - 125 * b) (by omega), lane 125 (fun i => (wordAt (leafH (otPublic (seedB (100 + 125 * b + i % 125)) 0)) j).toNat) (fun i => wlt _) (x - 125 * b) (by omega), show 125 * b + (x - 125 * b) = x by omega, Nat.mod_eq_of_lt (show x - 125 * b < 125 by omega), show 100 + 125 * b + (x - 125 * b) = 100 + x by omega] at e2
    exact e2
  unfold tabP pk8 at hk
  injection hk with k0 k1 k2 k3 k4 k5 k6 k7
  exact ⟨hl _ _ k0, hl _ _ k1, hl _ _ k2, hl _ _ k3, hl _ _ k4, hl _ _ k5, hl _ _ k6, hl _ _ k7⟩
theorem tab_at (x : Nat) (h : x < 1500) : tlX keyT0 x = (wordAt (keyP x) 0).toNat ∧ tlX keyT1 x = (wordAt (keyP x) 1).toNat ∧ tlX keyT2 x = (wordAt (keyP x) 2).toNat ∧ tlX keyT3 x = (wordAt (keyP x) 3).toNat ∧ tlX keyT4 x = (wordAt (keyP x) 4).toNat ∧ tlX keyT5 x = (wordAt (keyP x) 5).toNat ∧ tlX keyT6 x = (wordAt (keyP x) 6).toNat ∧ tlX keyT7 x = (wordAt (keyP x) 7).toNat := by
  rcases (by omega : (125 * 0 ≤ x ∧ x < 125 * 0 + 125) ∨ (125 * 1 ≤ x ∧ x < 125 * 1 + 125) ∨ (125 * 2 ≤ x ∧ x < 125 * 2 + 125) ∨ (125 * 3 ≤ x ∧ x < 125 * 3 + 125) ∨ (125 * 4 ≤ x ∧ x < 125 * 4 + 125) ∨ (125 * 5 ≤ x ∧ x < 125 * 5 + 125) ∨ (125 * 6 ≤ x ∧ x < 125 * 6 + 125) ∨ (125 * 7 ≤ x ∧ x < 125 * 7 + 125) ∨ (125 * 8 ≤ x ∧ x < 125 * 8 + 125) ∨ (125 * 9 ≤ x ∧ x < 125 * 9 + 125) ∨ (125 * 10 ≤ x ∧ x < 125 * 10 + 125) ∨ (125 * 11 ≤ x ∧ x < 125 * 11 + 125)) with h | h | h | h | h | h | h | h | h | h | h | h
  · exact runK_at 0 (by decide) keys_0 x h.1 h.2
  · exact runK_at 1 (by decide) keys_1 x h.1 h.2
  · exact runK_at 2 (by decide) keys_2 x h.1 h.2
  · exact runK_at 3 (by decide) keys_3 x h.1 h.2
  · exact runK_at 4 (by decide) keys_4 x h.1 h.2
  · exact runK_at 5 (by decide) keys_5 x h.1 h.2
  · exact runK_at 6 (by decide) keys_6 x h.1 h.2
  · exact runK_at 7 (by decide) keys_7 x h.1 h.2
  · exact runK_at 8 (by decide) keys_8 x h.1 h.2
  · exact runK_at 9 (by decide) keys_9 x h.1 h.2
  · exact runK_at 10 (by decide) keys_10 x h.1 h.2
  · exact runK_at 11 (by decide) keys_11 x h.1 h.2
theorem tabP_eq (off n : Nat) (h : off + n ≤ 1500) : tabP off n = pk8 n fun i => keyP (off + i) := by
  have e0 : slX keyT0 off n = wd (fun i => wordAt (keyP (off + i)) 0) n := (slX_eq keyT0 n off).trans (pack_congr _ _ _ fun i hi => (tab_at (off + i) (by omega)).1)
  have e1 : slX keyT1 off n = wd (fun i => wordAt (keyP (off + i)) 1) n := (slX_eq keyT1 n off).trans (pack_congr _ _ _ fun i hi => (tab_at (off + i) (by omega)).2.1)
  have e2 : slX keyT2 off n = wd (fun i => wordAt (keyP (off + i)) 2) n := (slX_eq keyT2 n off).trans (pack_congr _ _ _ fun i hi => (tab_at (off + i) (by omega)).2.2.1)
  have e3 : slX keyT3 off n = wd (fun i => wordAt (keyP (off + i)) 3) n := (slX_eq keyT3 n off).trans (pack_congr _ _ _ fun i hi => (tab_at (off + i) (by omega)).2.2.2.1)
  have e4 : slX keyT4 off n = wd (fun i => wordAt (keyP (off + i)) 4) n := (slX_eq keyT4 n off).trans (pack_congr _ _ _ fun i hi => (tab_at (off + i) (by omega)).2.2.2.2.1)
  have e5 : slX keyT5 off n = wd (fun i => wordAt (keyP (off + i)) 5) n := (slX_eq keyT5 n off).trans (pack_congr _ _ _ fun i hi => (tab_at (off + i) (by omega)).2.2.2.2.2.1)
  have e6 : slX keyT6 off n = wd (fun i => wordAt (keyP (off + i)) 6) n := (slX_eq keyT6 n off).trans (pack_congr _ _ _ fun i hi => (tab_at (off + i) (by omega)).2.2.2.2.2.2.1)
  have e7 : slX keyT7 off n = wd (fun i => wordAt (keyP (off + i)) 7) n := (slX_eq keyT7 n off).trans (pack_congr _ _ _ fun i hi => (tab_at (off + i) (by omega)).2.2.2.2.2.2.2)
  unfold tabP pk8
  rw [e0, e1, e2, e3, e4, e5, e6, e7]
theorem runG_at (v0 : Nat) (h0 : v0 + 50 ≤ 500) (h : runG v0 50 0 50 = true) (v w : Nat) (hv0 : v0 ≤ v) (hv1 : v < v0 + 50) (hw : w < 50) :
    leafH (short (endsK (seedB (100 + v)) 0 (ksD (digG (keyP v) 0 (mG (keyP (1000 + v)))) (digG (keyP (501 + v + w)) 0 (mG (keyP (1000 + v))))) 35)) ≠ keyP (501 + v + w) := by
  have hp : pack (fun i => 100 + v0 + 1 * i) 50 = pack (fun i => 100 + v0 + i % 50) 50 := pack_congr _ _ _ fun i hi => by rw [Nat.mod_eq_of_lt hi]; omega
  unfold runG at h
  dsimp only at h
  rw [seqN_eq, oneV_eq, seqN_eq, seqN_eq, numV_eq, ← msk_of, hp, tabP_eq v0 50 (by omega), tabP_eq (1000 + v0) 50 (by omega)] at h
  have hg := grpX_eq 50 (fun i => 100 + v0 + i % 50) (fun i => by have := Nat.mod_lt i (show 0 < 50 by decide); omega) (fun i => keyP (v0 + i)) (fun i => keyP (1000 + v0 + i)) (fun i => keyP (501 + v0 + (0 + w) + i)) _ (fun i => keyP_len _) (fun i => keyP_len _) (fun i => keyP_len _) 50 h w (v - v0) hw (tabP_eq (501 + v0 + (0 + w)) 50 (by omega)) (by omega)
  rw [Nat.mod_eq_of_lt (show v - v0 < 50 by omega), show 100 + v0 + (v - v0) = 100 + v by omega, show v0 + (v - v0) = v by omega, show 1000 + v0 + (v - v0) = 1000 + v by omega, show 501 + v0 + (0 + w) + (v - v0) = 501 + v + w by omega] at hg
  exact hg
/-- A grant of a key is no grant under another key. -/
theorem other_ne (v w : Nat) (hv : v < 500) (hw : w < 50) :
    leafH (short (endsK (seedB (100 + v)) 0 (ksD (digG (keyP v) 0 (mG (keyP (1000 + v)))) (digG (keyP (501 + v + w)) 0 (mG (keyP (1000 + v))))) 35)) ≠ keyP (501 + v + w) := by
  rcases (by omega : (0 ≤ v ∧ v < 0 + 50) ∨ (50 ≤ v ∧ v < 50 + 50) ∨ (100 ≤ v ∧ v < 100 + 50) ∨ (150 ≤ v ∧ v < 150 + 50) ∨ (200 ≤ v ∧ v < 200 + 50) ∨ (250 ≤ v ∧ v < 250 + 50) ∨ (300 ≤ v ∧ v < 300 + 50) ∨ (350 ≤ v ∧ v < 350 + 50) ∨ (400 ≤ v ∧ v < 400 + 50) ∨ (450 ≤ v ∧ v < 450 + 50)) with h | h | h | h | h | h | h | h | h | h
  · exact runG_at 0 (by decide) grp_0 v w h.1 h.2 hw
  · exact runG_at 50 (by decide) grp_1 v w h.1 h.2 hw
  · exact runG_at 100 (by decide) grp_2 v w h.1 h.2 hw
  · exact runG_at 150 (by decide) grp_3 v w h.1 h.2 hw
  · exact runG_at 200 (by decide) grp_4 v w h.1 h.2 hw
  · exact runG_at 250 (by decide) grp_5 v w h.1 h.2 hw
  · exact runG_at 300 (by decide) grp_6 v w h.1 h.2 hw
  · exact runG_at 350 (by decide) grp_7 v w h.1 h.2 hw
  · exact runG_at 400 (by decide) grp_8 v w h.1 h.2 hw
  · exact runG_at 450 (by decide) grp_9 v w h.1 h.2 hw
end Go.Proofs.YtamdgjgommejjaaGreat.V
