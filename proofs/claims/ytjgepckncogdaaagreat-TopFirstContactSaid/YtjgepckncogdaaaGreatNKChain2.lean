/- What a law leans on beyond the base: contracts, plain functions, walks. Conditions: those of each theorem. -/
import Derived.Test.YtjgepckncogdaaaGreatNUP
import Derived.Test.YtjgepckncogdaaaGreatTCtQ
import Derived.Test.YtjgepckncogdaaaGreatTCtP
import Derived.Test.YtjgepckncogdaaaGreatTOwnRF
import Derived.Test.YtjgepckncogdaaaGreatTCtA
import Derived.Test.YtjgepckncogdaaaGreatNC1
set_option linter.unusedVariables false
set_option linter.unusedSimpArgs false
namespace Go.Proofs.YtjgepckncogdaaaGreat
open Go Go.RowKit
set_option linter.unusedVariables false
set_option linter.unusedSimpArgs false
attribute [local go_sem ↓] Go.wp_at_zero Go.wp_at_succ
theorem HonK.snoc {ls : List LinkG} {t : LinkG} {k : Nat} {lo hi : Int} (hk : k < ls.length) (h : HonK ls k lo hi) : HonK (ls ++ [t]) k lo hi := by
 have e1 : linkT (ls ++ [t]) k = linkT ls k := by
  unfold linkT
  rw [List.getD_eq_getElem?_getD, List.getD_eq_getElem?_getD, List.getElem?_append_left hk]
 have e2 : (ls ++ [t]).take k = ls.take k := List.take_append_of_le_length (Nat.le_of_lt hk)
 unfold HonK
 rw [e1, e2]
 exact h
theorem inS_iff {lo hi f t : Int} : inS lo hi f t = true ↔ vS lo hi = true ∧ vS f t = true ∧ f ≤ lo ∧ hi ≤ t := by
 unfold inS
 simp only [Bool.and_eq_true, decide_eq_true_eq]
theorem meB_iff {a b c d : Int} : meB a b c d = true ↔ vS a b = true ∧ vS c d = true ∧ max a c ≤ min b d := by
 unfold meB
 simp only [Bool.and_eq_true, decide_eq_true_eq]
theorem meV_yes {a b c d : Int} (h : meB a b c d = true) : meV a b c d = (max a c, min b d) := by
 unfold meV; rw [if_pos h]
theorem met_sub (ws : List Sp) : ∀ k, (metL ws k).1 = true → (∀ j, j < k → (ws.getD j (0, 0)).1 ≤ (metL ws k).2.1 ∧ (metL ws k).2.2 ≤ (ws.getD j (0, 0)).2) ∧ vS (metL ws k).2.1 (metL ws k).2.2 = true := by
 intro k
 induction k with
 | zero => intro _; exact ⟨fun j hj => absurd hj (by omega), vS_iff.2 ⟨Int.le_refl _, Int.le_refl _, by show (-1152921504606846976 : Int) ≤ 1152921504606846976; omega⟩⟩
 | succ k ih =>
   intro h
   cases hk : (metL ws k).1 with
   | false =>
     rw [metL_stop hk 1] at h
     rw [h] at hk; cases hk
   | true =>
     obtain ⟨h1, h2⟩ := ih hk
     have hn := metL_next (ws := ws) hk
     rw [hn] at h ⊢
     dsimp only at h ⊢
     rw [meV_yes h]
     obtain ⟨m1, m2, m3⟩ := meB_iff.1 h
     rw [vS_iff] at m1 m2
     refine ⟨fun j hj => ?_, vS_iff.2 (by dsimp only; omega)⟩
     dsimp only
     rcases Nat.lt_or_ge j k with hjk | hjk
     · have := h1 j hjk; omega
     · obtain rfl : j = k := by omega
       omega
theorem met_has (ws : List Sp) (x : Int) : ∀ k, (∀ j, j < k → vS (ws.getD j (0, 0)).1 (ws.getD j (0, 0)).2 = true ∧ (ws.getD j (0, 0)).1 ≤ x ∧ x ≤ (ws.getD j (0, 0)).2) → -1152921504606846976 ≤ x → x ≤ 1152921504606846976 → (metL ws k).1 = true ∧ (metL ws k).2.1 ≤ x ∧ x ≤ (metL ws k).2.2 := by
 intro k
 induction k with
 | zero => intro _ h1 h2; exact ⟨rfl, h1, h2⟩
 | succ k ih =>
   intro h h1 h2
   obtain ⟨a1, a2, a3⟩ := ih (fun j hj => h j (by omega)) h1 h2
   obtain ⟨b1, b2, b3⟩ := h k (by omega)
   have hs := (met_sub ws k a1).2
   have hm : meB (metL ws k).2.1 (metL ws k).2.2 (ws.getD k (0, 0)).1 (ws.getD k (0, 0)).2 = true := meB_iff.2 ⟨hs, b1, by omega⟩
   rw [metL_next a1]
   dsimp only
   rw [hm, meV_yes hm]
   exact ⟨rfl, by dsimp only; omega, by dsimp only; omega⟩
theorem honL_get (v : Int) (ws : List Sp) (n k : Nat) (h : k < n) : certT (honL v ws n) k = honC v ws k := by
 unfold certT honL
 rw [List.getD_eq_getElem?_getD, List.getElem?_map, List.getElem?_range h]
 rfl
theorem par_hon (v : Int) (ws : List Sp) (n : Nat) : ∀ k, k ≤ n → parG (keyG (seedC v 0) 0) (honL v ws n) k = keyG (seedC v k) 0 := by
 intro k hk
 cases k with
 | zero => rfl
 | succ k => rw [parG, honL_get v ws n k (by omega)]; rfl
theorem chk_hon (v : Int) (ws : List Sp) (n : Nat) (hn : n ≤ 9) (hv : ∀ k, k < n → vS (ws.getD k (0, 0)).1 (ws.getD k (0, 0)).2 = true) : ∀ k, k ≤ n → chkK (keyG (seedC v 0) 0) (honL v ws n) k = 0 := by
 intro k
 induction k with
 | zero => intro _; rfl
 | succ k ih =>
   intro hk
   have hp := par_hon v ws n k (by omega)
   have hkl : (keyG (seedC v (k + 1)) 0).length = 32 := keyG_len _ _
   have hf := name_formed k (by omega) _ _ (hv k (by omega))
   have hm := ctext_len (nameC k) (keyG (seedC v (k + 1)) 0) (ws.getD k (0, 0)).1 (ws.getD k (0, 0)).2 (by simp [nameC]) hkl
   have hvs := verify_sig (seedC v k) 0 0 (ctextB (nameC k) (keyG (seedC v (k + 1)) 0) (ws.getD k (0, 0)).1 (ws.getD k (0, 0)).2) (by omega) (by omega) (by omega)
   rw [chkK_next (ih (by omega)), hp, honL_get v ws n k (by omega)]
   unfold cchkC honC
   dsimp only
   rw [hkl, hf, hvs]
   rfl
theorem winL_hon (v : Int) (ws : List Sp) : winL (honL v ws ws.length) = ws := by
 apply List.ext_getElem?
 intro j
 unfold winL honL
 rw [List.getElem?_map, List.getElem?_map]
 by_cases h : j < ws.length
 · rw [List.getElem?_range h, List.getElem?_eq_getElem h]
   show some (((ws.getD j (0, 0)).1, (ws.getD j (0, 0)).2)) = _
   rw [List.getD_eq_getElem?_getD, List.getElem?_eq_getElem h]
   rfl
 · rw [List.getElem?_eq_none (by simp; omega), List.getElem?_eq_none (by omega)]
   rfl
def insK (ws : List Sp) (lo hi : Int) : Nat → Bool
 | 0 => true
 | k + 1 => insK ws lo hi k && inS lo hi (ws.getD k (0, 0)).1 (ws.getD k (0, 0)).2
theorem insK_each {ws : List Sp} {lo hi : Int} : ∀ k, insK ws lo hi k = true ↔ ∀ j, j < k → inS lo hi (ws.getD j (0, 0)).1 (ws.getD j (0, 0)).2 = true := by
 intro k
 induction k with
 | zero => exact ⟨fun _ j hj => absurd hj (by omega), fun _ => rfl⟩
 | succ k ih =>
   rw [insK, Bool.and_eq_true, ih]
   constructor
   · rintro ⟨h1, h2⟩ j hj
     rcases Nat.lt_or_ge j k with h | h
     · exact h1 j h
     · obtain rfl : j = k := by omega
       exact h2
   · intro h
     exact ⟨fun j hj => h j (by omega), h k (by omega)⟩
theorem acc_hon {v : Int} {ws : List Sp} {lo hi : Int} (h1 : 1 ≤ ws.length) (h4 : ws.length ≤ 4) (hv : ∀ k, k < ws.length → vS (ws.getD k (0, 0)).1 (ws.getD k (0, 0)).2 = true) (hs : vS lo hi = true) :
 accC (keyG (seedC v 0) 0) (honL v ws ws.length) lo hi = if insK ws lo hi ws.length = true then 0 else 25 := by
 have hc := chk_hon v ws ws.length (by omega) hv ws.length (Nat.le_refl _)
 have hl := honL_len v ws ws.length
 have hw := winL_hon v ws
 have hs' := vS_iff.1 hs
 by_cases hi' : insK ws lo hi ws.length = true
 · rw [if_pos hi']
   have he := (insK_each ws.length).1 hi'
   have hx := met_has ws lo ws.length (fun j hj => by have := inS_iff.1 (he j hj); exact ⟨hv j hj, this.2.2.1, by omega⟩) (by omega) (by omega)
   have hy := met_has ws hi ws.length (fun j hj => by have := inS_iff.1 (he j hj); exact ⟨hv j hj, by omega, this.2.2.2⟩) (by omega) (by omega)
   obtain ⟨w1, w2⟩ := win_yes (r := keyG (seedC v 0) 0) (cs := honL v ws ws.length) (by rw [hl]; omega) (by rw [hl]; exact hc) (by rw [hw, hl]; exact hx.1)
   refine acc_yes w1 hs ?_
   rw [w2, hw, hl]
   exact inS_iff.2 ⟨hs, (met_sub ws _ hx.1).2, hx.2.1, hy.2.2⟩
 · rw [if_neg hi']
   cases hm : (metL ws ws.length).1 with
   | false =>
     have hw5 := win_no (r := keyG (seedC v 0) 0) (cs := honL v ws ws.length) (by rw [hl]; omega) (by rw [hl]; exact hc) (by rw [hw, hl]; exact hm)
     rw [acc_win (by rw [hw5]; omega), hw5]
   | true =>
     obtain ⟨w1, w2⟩ := win_yes (r := keyG (seedC v 0) 0) (cs := honL v ws ws.length) (by rw [hl]; omega) (by rw [hl]; exact hc) (by rw [hw, hl]; exact hm)
     refine acc_out w1 hs ?_
     rw [w2, hw, hl]
     cases hq : inS lo hi (metL ws ws.length).2.1 (metL ws ws.length).2.2 with
     | false => rfl
     | true =>
       exfalso
       apply hi'
       rw [insK_each]
       intro j hj
       have hq' := inS_iff.1 hq
       have hsub := (met_sub ws _ hm).1 j hj
       exact inS_iff.2 ⟨hs, hv j hj, by omega, by omega⟩
theorem accV_hon {v : Int} {ws : List Sp} {lo hi : Int} (h1 : 1 ≤ ws.length) : accV (keyG (seedC v 0) 0) (honL v ws ws.length) lo hi = if accC (keyG (seedC v 0) 0) (honL v ws ws.length) lo hi = 0 then keyG (seedC v ws.length) 0 else [] := by
 unfold accV
 rw [honL_len, honL_get v ws ws.length (ws.length - 1) (by omega)]
 show (if _ then keyG (seedC v (ws.length - 1 + 1)) 0 else []) = _
 rw [show ws.length - 1 + 1 = ws.length by omega]
theorem grown_appV {w W W' : World} {g : Nat} {r : Option Nat} (h : w.grownBy W (some g)) (h2 : W.grownBy W' r) (hr : ∀ j, r = some j → w.heap.size ≤ j) : w.grownBy W' (some g) :=
 ⟨h2.os.trans h.os, h2.tape.trans h.tape, h2.output.trans h.output, Nat.le_trans h.size h2.size, fun k hk hne => (h2.block k (Nat.lt_of_lt_of_le hk h.size) (fun e => by have := hr k e.symm; omega)).trans (h.block k hk hne)⟩
theorem spV_snocV (ws : List Sp) (a b : Int) : spV ws ++ [.int .i64 a, .int .i64 b] = spV (ws ++ (a, b) :: []) := by rw [spV_append]; rfl
abbrev VoiT := Value × List CertG × Int × Int
def noVoi : VoiT := (.slice none 0 0, [], 0, 0)
def voiT (ts : List VoiT) (k : Nat) : VoiT := ts.getD k noVoi
def voiC (ts : List VoiT) : List Value := ts.flatMap fun t => [t.1, .int .i64 t.2.2.1, .int .i64 t.2.2.2]
theorem voiC_append (a b : List VoiT) : voiC (a ++ b) = voiC a ++ voiC b := by simp [voiC]
theorem voiC_get (ts : List VoiT) : ∀ (k : Nat) (t : VoiT), ts[k]? = some t → (voiC ts)[k * 3]? = some t.1 ∧ (voiC ts)[k * 3 + 1]? = some (.int .i64 t.2.2.1) ∧ (voiC ts)[k * 3 + 2]? = some (.int .i64 t.2.2.2) := by
 induction ts with
 | nil => intro k c h; simp at h
 | cons a r ih =>
   intro k t h
   cases k with
   | zero =>
     simp at h
     subst h
     exact ⟨rfl, rfl, rfl⟩
   | succ k =>
     rw [List.getElem?_cons_succ] at h
     have := ih k t h
     rw [show (k + 1) * 3 = k * 3 + 3 by omega, show k * 3 + 3 + 1 = k * 3 + 1 + 3 by omega, show k * 3 + 3 + 2 = k * 3 + 2 + 3 by omega]
     exact this
theorem voiT_get (ts : List VoiT) (k : Nat) (h : k < ts.length) : ts[k]? = some (voiT ts k) := by rw [voiT, List.getD_eq_getElem?_getD, List.getElem?_eq_getElem h]; rfl
theorem voiT_mem (ts : List VoiT) (k : Nat) (h : k < ts.length) : voiT ts k ∈ ts := List.mem_of_getElem? (voiT_get ts k h)
def SeesV (w : World) (B : Nat) (v : Value) (ts : List VoiT) : Prop :=
 Sees w B v 3 ts.length (voiC ts) ∧ ∀ t ∈ ts, SeesR w B t.1 5 t.2.1.length (certS t.2.1)
theorem SeesV.below {w w' : World} {B : Nat} {v : Value} {ts : List VoiT} (h : SeesV w B v ts) (hb : Below B w w') : SeesV w' B v ts := ⟨h.1.below hb, fun t ht => (h.2 t ht).below hb⟩
theorem SeesV.more {w : World} {B B' : Nat} {v : Value} {ts : List VoiT} (h : SeesV w B v ts) (hb : B ≤ B') : SeesV w B' v ts := ⟨h.1.more hb, fun t ht => (h.2 t ht).more hb⟩
theorem voi_at {w : World} {B n c : Nat} {A : Option Addr} {ts : List VoiT} (h : SeesV w B (.slice A n c) ts) (k : Nat) (hk : k < ts.length) :
 ∃ b o A1 c1, A = some ⟨b, o, none⟩ ∧ b < B ∧ (voiT ts k).1 = .slice A1 (voiT ts k).2.1.length c1 ∧ w.cell? ⟨b, o + k * 3, none⟩ = some (.slice A1 (voiT ts k).2.1.length c1) ∧ w.cell? ⟨b, o + k * 3 + 1, none⟩ = some (.int .i64 (voiT ts k).2.2.1) ∧ w.cell? ⟨b, o + k * 3 + 2, none⟩ = some (.int .i64 (voiT ts k).2.2.2) ∧ SeesR w B (.slice A1 (voiT ts k).2.1.length c1) 5 (voiT ts k).2.1.length (certS (voiT ts k).2.1) := by
 obtain ⟨h1, h2⟩ := h
 have h3 := h2 _ (voiT_mem ts k hk)
 obtain ⟨A1, c1, e1, -, -⟩ := h3.mk_
 obtain ⟨A', c', hv, -, -⟩ := h1.mk_
 injection hv with a1 a2 a3
 subst a1 a2 a3
 obtain ⟨b, o, e, hb, hc⟩ := h1.at_ (by omega)
 obtain ⟨g0, g1, g2⟩ := voiC_get ts k _ (voiT_get ts k hk)
 rw [e1] at g0 h3
 exact ⟨b, o, A1, c1, e, hb, e1, hc _ _ g0, by rw [Nat.add_assoc]; exact hc _ _ g1, by rw [Nat.add_assoc]; exact hc _ _ g2, h3⟩
def Keeps (G : Nat) (w0 w : World) : Prop := w0.heap.size ≤ w.heap.size ∧ ∀ b, G ≤ b → b < w0.heap.size → w.heap[b]? = w0.heap[b]?
theorem Keeps.refl (G : Nat) (w : World) : Keeps G w w := ⟨Nat.le_refl _, fun _ _ _ => rfl⟩
theorem Keeps.below {G : Nat} {w0 w w' : World} (h : Keeps G w0 w) (hb : Below w.heap.size w w') : Keeps G w0 w' :=
 ⟨Nat.le_trans h.1 hb.size, fun b h1 h2 => (hb.block b (Nat.lt_of_lt_of_le h2 h.1)).trans (h.2 b h1 h2)⟩
theorem Keeps.grown {G : Nat} {w0 w w' : World} {r : Option Nat} (h : Keeps G w0 w) (hg : w.grownBy w' r) (hr : ∀ j, r = some j → j < G ∨ w0.heap.size ≤ j) : Keeps G w0 w' :=
 ⟨Nat.le_trans h.1 hg.size, fun b h1 h2 => (hg.block b (Nat.lt_of_lt_of_le h2 h.1) (fun e => by have := hr b e.symm; omega)).trans (h.2 b h1 h2)⟩
theorem Keeps.cell {G : Nat} {w0 w : World} (h : Keeps G w0 w) {p : Addr} (h1 : G ≤ p.block) (h2 : p.block < w0.heap.size) : w.cell? p = w0.cell? p := World.cell?_of_block (h.2 _ h1 h2)
theorem keeps_sees {G size n : Nat} {w0 w : World} {u : Value} {xs : List Value} (h : Sees w0 w0.heap.size u size n xs) (f : From G u) (k : Keeps G w0 w) : Sees w w.heap.size u size n xs := by
 obtain ⟨h0, A, c, rfl, h1, h2, h3⟩ := h
 refine ⟨h0, A, c, rfl, h1, h2, fun hn => ?_⟩
 obtain ⟨b, o, e, hb, hc⟩ := h3 hn
 refine ⟨b, o, e, Nat.lt_of_lt_of_le hb k.1, fun j x hx => ?_⟩
 subst e
 exact (k.cell (p := ⟨b, o + j, none⟩) (show G ≤ b from f ⟨b, o, none⟩ _ _ rfl) hb).trans (hc j x hx)
theorem keeps_row {G size n : Nat} {w0 w : World} {T : TypeId} {v : Value} {ss : List Spec} (h : OwnRF w0 G T v size n ss) (k : Keeps G w0 w) : SeesR w w.heap.size v size n ss := by
 obtain ⟨h0, vs, h1, h2⟩ := h
 refine ⟨h0, vs, keeps_sees (Sees.of_own h1) ?_ k, fun j s hj => ?_⟩
 · intro a n c e
   rcases h1.2 with ⟨rfl, -⟩ | ⟨g, cap, cur, rfl, hb, -⟩
   · cases e
   · cases e; exact hb
 · obtain ⟨u, e1, e2, e3⟩ := h2 j s hj
   refine ⟨u, e1, ?_⟩
   cases s with
   | val y => exact e2
   | byt l => exact keeps_sees e2.1 e3 k
def VEl (base : Nat) (W : World) (o : Option Nat) (u : Value) (cs : List CertG) : Prop :=
 ∃ w0 G, base ≤ G ∧ OwnRF w0 G 70 u 5 cs.length (certS cs) ∧ Keeps G w0 W ∧ ∀ j, o = some j → j < G ∨ w0.heap.size ≤ j
theorem VEl.sees {base : Nat} {W : World} {o : Option Nat} {u : Value} {cs : List CertG} (h : VEl base W o u cs) : SeesR W W.heap.size u 5 cs.length (certS cs) := by
 obtain ⟨w0, G, -, h1, h2, -⟩ := h
 exact keeps_row h1 h2
theorem VEl.below {base : Nat} {W W' : World} {o : Option Nat} {u : Value} {cs : List CertG} (h : VEl base W o u cs) (hb : Below W.heap.size W W') : VEl base W' o u cs := by
 obtain ⟨w0, G, h0, h1, h2, h3⟩ := h
 exact ⟨w0, G, h0, h1, h2.below hb, h3⟩
theorem VEl.grown {base : Nat} {W W' : World} {o o' : Option Nat} {u : Value} {cs : List CertG} (h : VEl base W o u cs) (hg : W.grownBy W' o) (ho : o' = o ∨ o' = some W.heap.size) : VEl base W' o' u cs := by
 obtain ⟨w0, G, h0, h1, h2, h3⟩ := h
 refine ⟨w0, G, h0, h1, h2.grown hg h3, fun j hj => ?_⟩
 rcases ho with rfl | rfl
 · exact h3 j hj
 · cases hj; exact .inr h2.1
theorem VEl.tape {base g : Nat} {W W' : World} {o : Option Nat} {u : Value} {cs : List CertG} (h : VEl base W o u cs) (hg : W.grownBy W' (some g)) (hb : g < base) : VEl base W' o u cs := by
 obtain ⟨w0, G, h0, h1, h2, h3⟩ := h
 exact ⟨w0, G, h0, h1, h2.grown hg (fun j hj => by cases hj; omega), h3⟩
def OwnV (w : World) (base : Nat) (v : Value) (ts : List VoiT) : Prop :=
 w.ownsRow base 85 3 v ts.length (voiC ts) ∧ ∀ t ∈ ts, VEl base w v.ownBlock t.1 t.2.1
theorem OwnV.sees {w : World} {base : Nat} {v : Value} {ts : List VoiT} (h : OwnV w base v ts) : SeesV w w.heap.size v ts := ⟨Sees.of_own h.1, fun t ht => (h.2 t ht).sees⟩
theorem OwnV.below {w w' : World} {base : Nat} {v : Value} {ts : List VoiT} (h : OwnV w base v ts) (hb : Below w.heap.size w w') : OwnV w' base v ts := ⟨own_below h.1 hb, fun t ht => (h.2 t ht).below hb⟩
theorem OwnV.tape {w w' : World} {base g : Nat} {v : Value} {ts : List VoiT} (h : OwnV w base v ts) (hg : w.grownBy w' (some g)) (hb : g < base) : OwnV w' base v ts := ⟨row_tape h.1 hg hb, fun t ht => (h.2 t ht).tape hg hb⟩
theorem OwnV.nil (w : World) (base : Nat) : OwnV w base (.slice none 0 0) [] := ⟨World.ownsRow_nil _ _ _ _, fun t ht => absurd ht (by simp)⟩
theorem OwnV.app {w w' : World} {base G : Nat} {v v' u : Value} {ts : List VoiT} {cs : List CertG} {lo hi : Int} (h : OwnV w base v ts) (hc : OwnRF w G 70 u 5 cs.length (certS cs)) (hG : base ≤ G) (hv : ∀ j, v.ownBlock = some j → j < G)
 (ho : w'.ownsRow base 85 3 v' (ts.length + 1) (voiC ts ++ [u, .int .i64 lo, .int .i64 hi])) (hg : w.grownBy w' v.ownBlock) (hd : v'.ownBlock = v.ownBlock ∨ v'.ownBlock = some w.heap.size) : OwnV w' base v' (ts ++ (u, cs, lo, hi) :: []) := by
 refine ⟨by rw [List.length_append, voiC_append]; exact ho, fun t ht => ?_⟩
 rcases List.mem_append.1 ht with h1 | h1
 · exact (h.2 t h1).grown hg hd
 · rw [List.mem_singleton] at h1
   subst h1
   exact VEl.grown (o := v.ownBlock) ⟨w, G, hG, hc, Keeps.refl G w, fun j hj => .inl (hv j hj)⟩ hg hd
def vacc (r : Bs) (t : VoiT) : Int := accC r t.2.1 t.2.2.1 t.2.2.2
def heardN (r : Bs) (ts : List VoiT) : Nat → List Int
 | 0 => []
 | k + 1 => if vacc r (voiT ts k) = 0 then heardN r ts k ++ (k : Int) :: [] else heardN r ts k
def spansN (r : Bs) (ts : List VoiT) : Nat → List Sp
 | 0 => []
 | k + 1 => if vacc r (voiT ts k) = 0 then spansN r ts k ++ (voiT ts k).2.2 :: [] else spansN r ts k
theorem heardN_len (r : Bs) (ts : List VoiT) : ∀ k, (heardN r ts k).length = (spansN r ts k).length ∧ (spansN r ts k).length ≤ k
 | 0 => by simp [heardN, spansN]
 | k + 1 => by
   obtain ⟨h1, h2⟩ := heardN_len r ts k
   unfold heardN spansN
   split
   · simp; omega
   · omega
theorem accC_vS {r : Bs} {cs : List CertG} {lo hi : Int} (h : accC r cs lo hi = 0) : vS lo hi = true := by
 cases hv : vS lo hi with
 | true => rfl
 | false =>
   by_cases hw : winC r cs = 0
   · rw [acc_form hw hv] at h; omega
   · rw [acc_win hw] at h; exact absurd h hw
theorem spansN_ok (r : Bs) (ts : List VoiT) : ∀ k, ∀ s ∈ spansN r ts k, vS s.1 s.2 = true
 | 0 => by simp [spansN]
 | k + 1 => by
   have ih := spansN_ok r ts k
   intro s hs
   unfold spansN at hs
   split at hs
   · rename_i h0
     rcases List.mem_append.1 hs with h | h
     · exact ih s h
     · rw [List.mem_singleton] at h
       subst h
       exact accC_vS h0
   · exact ih s hs
def FirstR (r : Bs) (ts : List VoiT) (f lo hi : Int) (is : List Int) (c : Int) : Prop :=
 if 64 < ts.length then c = 8 ∧ lo = 0 ∧ hi = 0 ∧ is = []
 else if 0 ≤ f ∧ 2 * f < (ts.length : Int) then ∃ o, IsHull (spansN r ts ts.length) (ts.length - f) o ∧ match o with
  | none => c = 21 ∧ lo = 0 ∧ hi = 0 ∧ is = []
  | some s => c = 0 ∧ lo = s.1 ∧ hi = s.2 ∧ is = heardN r ts ts.length
 else c = 4 ∧ lo = 0 ∧ hi = 0 ∧ is = []
def FirstVP (r : Bs) (ts : List VoiT) (f : Int) (w : World) (e : Ending) (w' : World) : Prop :=
 ∃ (v : Value) (c lo hi : Int) (is : List Int), e = .returned (.tuple #[.agg #[.int .i64 lo, .int .i64 hi], v, .int .i64 c]) ∧ SeesT w' w'.heap.size v is ∧ FirstR r ts f lo hi is c ∧ Below w.heap.size w w'
theorem cnt_snocV (l : List Sp) (s : Sp) (t : Int) : cnt (l ++ s :: []) t = cnt l t + if s.1 ≤ t ∧ t ≤ s.2 then 1 else 0 := by
 unfold cnt hol
 rw [List.countP_append, List.countP_singleton]
 by_cases h : s.1 ≤ t ∧ t ≤ s.2
 · rw [if_pos h, if_pos (by simpa using h)]
 · rw [if_neg h, if_neg (by simpa using h)]
theorem spans_truth {r : Bs} {ts : List VoiT} {f n : Nat} {t : Int} (h : ∀ k, f ≤ k → k < n → vacc r (voiT ts k) = 0 ∧ (voiT ts k).2.2.1 ≤ t ∧ t ≤ (voiT ts k).2.2.2) : ∀ k, k ≤ n → k ≤ cnt (spansN r ts k) t + f
 | 0, _ => by omega
 | k + 1, hk => by
   have ih := spans_truth h k (by omega)
   unfold spansN
   by_cases hf : f ≤ k
   · obtain ⟨h1, h2⟩ := h k hf (by omega)
     rw [if_pos h1, cnt_snocV, if_pos h2]
     omega
   · split
     · rw [cnt_snocV]; omega
     · omega
theorem spans_some {r : Bs} {ts : List VoiT} {f : Nat} {t : Int} : ∀ k, f < cnt (spansN r ts k) t → ∃ j, f ≤ j ∧ j < k ∧ (voiT ts j).2.2.1 ≤ t ∧ t ≤ (voiT ts j).2.2.2
 | 0, h => by simp [spansN, cnt] at h
 | k + 1, h => by
   have hl := (heardN_len r ts (k + 1)).2
   have hc := cnt_le (spansN r ts (k + 1)) t
   unfold spansN at h
   split at h
   · rw [cnt_snocV] at h
     by_cases hs : (voiT ts k).2.2.1 ≤ t ∧ t ≤ (voiT ts k).2.2.2
     · have hs' : (voiT ts k).2.2.1 ≤ t ∧ t ≤ (voiT ts k).2.2.2 := hs
       rw [if_pos hs'] at h
       have h1 := (heardN_len r ts k).2
       have h2 := cnt_le (spansN r ts k) t
       exact ⟨k, by omega, by omega, hs⟩
     · have hs' : ¬ ((voiT ts k).2.2.1 ≤ t ∧ t ≤ (voiT ts k).2.2.2) := hs
       rw [if_neg hs'] at h
       obtain ⟨j, h1, h2, h3⟩ := spans_some k (by omega)
       exact ⟨j, h1, by omega, h3⟩
   · obtain ⟨j, h1, h2, h3⟩ := spans_some k h
     exact ⟨j, h1, by omega, h3⟩
def cntF (f : Nat) (l : List Int) : Nat := l.countP fun x => decide ((f : Int) ≤ x)
theorem cntF_snoc (f : Nat) (l : List Int) (x : Int) : cntF f (l ++ x :: []) = cntF f l + if (f : Int) ≤ x then 1 else 0 := by
 unfold cntF
 rw [List.countP_append, List.countP_singleton]
 by_cases h : (f : Int) ≤ x
 · rw [if_pos h, if_pos (by simpa using h)]
 · rw [if_neg h, if_neg (by simpa using h)]
theorem heard_all {r : Bs} {ts : List VoiT} {f n : Nat} (h : ∀ k, f ≤ k → k < n → vacc r (voiT ts k) = 0) : ∀ k, k ≤ n → cntF f (heardN r ts k) = k - f
 | 0, _ => by simp [heardN, cntF]
 | k + 1, hk => by
   have ih := heard_all h k (by omega)
   unfold heardN
   by_cases hf : f ≤ k
   · rw [if_pos (h k hf (by omega)), cntF_snoc, if_pos (by omega)]
     omega
   · split
     · rw [cntF_snoc, if_neg (by omega)]; omega
     · omega
theorem truth_plain {r : Bs} {ts : List VoiT} {f : Nat} {t lo hi : Int} {is : List Int} {c : Int} (hn : ts.length ≤ 64) (hf : 2 * f < ts.length)
 (h : ∀ k, f ≤ k → k < ts.length → vacc r (voiT ts k) = 0 ∧ (voiT ts k).2.2.1 ≤ t ∧ t ≤ (voiT ts k).2.2.2) (hF : FirstR r ts f lo hi is c) :
 c = 0 ∧ lo ≤ t ∧ t ≤ hi ∧ cntF f is = ts.length - f ∧ is.length ≤ 64 ∧ (∃ j, f ≤ j ∧ j < ts.length ∧ (voiT ts j).2.2.1 ≤ lo ∧ lo ≤ (voiT ts j).2.2.2) ∧ (∃ j, f ≤ j ∧ j < ts.length ∧ (voiT ts j).2.2.1 ≤ hi ∧ hi ≤ (voiT ts j).2.2.2) := by
 unfold FirstR at hF
 rw [if_neg (by omega), if_pos (by omega)] at hF
 obtain ⟨o, ho, hF⟩ := hF
 have ht := spans_truth h ts.length (Nat.le_refl _)
 have hl := heardN_len r ts ts.length
 cases o with
 | none => have := ho t; omega
 | some s =>
   obtain ⟨rfl, rfl, rfl, rfl⟩ := hF
   obtain ⟨h1, h2, h3⟩ := ho
   obtain ⟨h4, h5⟩ := h3 t (by omega)
   exact ⟨rfl, h4, h5, heard_all (fun k a b => (h k a b).1) _ (Nat.le_refl _), by omega, spans_some (r := r) _ (by omega), spans_some (r := r) _ (by omega)⟩
def VoiOk (v f truth : Int) (ts : List VoiT) : Prop :=
 ∀ j, j < ts.length → (voiT ts j).2.1.length = 1 ∧ (∀ c ∈ (voiT ts j).2.1, c.2.1.length ≤ 1048576 ∧ c.2.2.2.2.length ≤ 1048576) ∧ (f ≤ (j : Int) → ∃ a b, (voiT ts j).2.1 = honL v ((a, b) :: []) 1 ∧ -100 + truth ≤ a ∧ a ≤ (voiT ts j).2.2.1 ∧ (voiT ts j).2.2.1 ≤ truth ∧ truth ≤ (voiT ts j).2.2.2 ∧ (voiT ts j).2.2.2 ≤ b ∧ b ≤ truth + 100)
theorem voi_snoc (ts : List VoiT) (t : VoiT) (j : Nat) : voiT (ts ++ t :: []) j = if j < ts.length then voiT ts j else if j = ts.length then t else noVoi := by
 unfold voiT
 rw [List.getD_eq_getElem?_getD, List.getD_eq_getElem?_getD]
 by_cases h : j < ts.length
 · rw [if_pos h, List.getElem?_append_left h]
 · rw [if_neg h, List.getElem?_append_right (by omega)]
   by_cases h2 : j = ts.length
   · rw [if_pos h2, h2]; simp
   · rw [if_neg h2, List.getElem?_eq_none (by simp; omega)]; rfl
theorem VoiOk.snoc {v f truth : Int} {ts : List VoiT} (h : VoiOk v f truth ts) {t : VoiT} (h1 : t.2.1.length = 1) (h2 : ∀ c ∈ t.2.1, c.2.1.length ≤ 1048576 ∧ c.2.2.2.2.length ≤ 1048576) (h3 : f ≤ (ts.length : Int) → ∃ a b, t.2.1 = honL v ((a, b) :: []) 1 ∧ -100 + truth ≤ a ∧ a ≤ t.2.2.1 ∧ t.2.2.1 ≤ truth ∧ truth ≤ t.2.2.2 ∧ t.2.2.2 ≤ b ∧ b ≤ truth + 100) : VoiOk v f truth (ts ++ t :: []) := by
 intro j hj
 rw [List.length_append] at hj
 rw [voi_snoc]
 by_cases h : j < ts.length
 · rw [if_pos h]; rename_i h0; exact h0 j h
 · have : j = ts.length := by simp at hj; omega
   subst this
   rw [if_neg h, if_pos rfl]
   exact ⟨h1, h2, h3⟩
theorem voice_info : (Tryz.prog.info? 85).map (fun i => (i.zero, i.size, i.bytes)) = some (some (.agg #[.slice none 0 0, .int .i64 0, .int .i64 0]), 3, 40) := by kernel_rfl
theorem tape_set1V {W : World} {g g4 j : Nat} {u : Value} {l : List Int} {k : Nat} (h : TapeAt W g u l k) (hg : g < g4) (y : Value) : TapeAt (W.setCell ⟨g4, j, none⟩ y) g u l k := by
 obtain ⟨h1, h2, h3⟩ := h
 exact ⟨h1.other (by omega), Sees.below h2 ((Below.refl g W).setCell (p := ⟨g4, j, none⟩) (Nat.le_of_lt hg) y), h3⟩
end Go.Proofs.YtjgepckncogdaaaGreat
