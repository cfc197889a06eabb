/- What the laws of chains lean on: contracts of the program and of the reference, and plain functions. Conditions: those of each theorem. -/
import Derived.Test.YtgehkgjllhkhoaaGreatH9
namespace Go.Proofs.YtgehkgjllhkhoaaGreat
open Go.RowKit
set_option linter.unusedVariables false
attribute [local go_sem ↓] Go.wp_at_zero Go.wp_at_succ
theorem partsG_short (l : Bs) (h : l.length < 565) : partsG l = none := by rw [partsG, if_pos h]
theorem partsG_ok (l : Bs) (s : Sig) (h : partsG l = some s) : s.height ≤ 6 ∧ s.index < 2 ^ s.height ∧ s.elements.length = 35 ∧ (∀ x ∈ s.elements, x.length = 16) ∧ s.path.length = s.height ∧ (∀ x ∈ s.path, x.length = 32) := by
 unfold partsG at h
 split at h
 · cases h
 · split at h
   · cases h
   · rename_i h1 h2
     injection h with h
     subst h
     dsimp only
     have hd : (l.drop 5).length = l.length - 5 := List.length_drop
     refine ⟨by omega, by omega, cutL_len _ _ _, ?_, cutL_len _ _ _, ?_⟩
     · rw [← cutL_take]
       exact cutL_el 16 35 _ (by rw [List.length_take, hd]; omega)
     · exact cutL_el 32 _ _ (by rw [List.length_drop]; omega)
theorem parse_all (B : Nat) (u : Value) (l : Bs) (w : World) (hu : SeesB w B u l) (hB : B ≤ w.heap.size) (hl : l.length ≤ 1048576) : Calls Tryz.prog 149 #[u] w (ParseP (partsG l) w) := by
 by_cases h : 5 ≤ l.length
 · exact parse_long B u l w hu hB h hl
 · rw [partsG_short l (by omega)]; exact parse_short B u l w hu hB (by omega)
theorem checkI_in (root leaf : Bs) (n i : Nat) (p : List Bs) (hn : 1 ≤ n) (hn2 : n ≤ 1024) (hi : i < n) : checkI root (n : Int) (i : Int) leaf p = checkG root n i leaf p := by
 have hin : inI (n : Int) (i : Int) = true := by simp [inI]; omega
 unfold checkI climbI checkG
 rw [if_pos hin, Int.toNat_natCast, Int.toNat_natCast]
 cases h : climbG n i (leafH leaf) p with
 | none => rfl
 | some x =>
   obtain ⟨r, used⟩ := x
   dsimp only
   by_cases hu : used = p.length
   · simp [hu]
     rw [Bool.eq_iff_iff]; simp
   · simp [hu]
set_option maxRecDepth 100000 in
set_option maxHeartbeats 2000000 in
theorem verify_any (B : Nat) (u u2 u3 : Value) (p m l : Bs) (w : World) (hu : SeesB w B u p) (hu2 : SeesB w B u2 m) (hu3 : SeesB w B u3 l) (hB : B ≤ w.heap.size) (hm : m.length ≤ 1048576) (hl : l.length ≤ 1048576) :
 Calls Tryz.prog 82 #[u, u2, u3] w (BoolPost (verifyG p m l) w) := by
 have hc := parse_all B u3 l w hu3 hB hl
 obtain ⟨A, c, rfl, -, -⟩ := hu.mk_
 obtain ⟨A2, c2, rfl, -, -⟩ := hu2.mk_
 obtain ⟨A3, c3, rfl, -, -⟩ := hu3.mk_
 clear hu3
 rcases hpt : partsG l with _ | s
 · have hv : Hid (verifyG p m l = false) := by show _ = _; rw [verifyG, hpt]
   rw [hpt] at hc
   replace hc : Hid (Calls _ _ _ _ (ParseNone w)) := hc
   clear hpt hu hu2
   go_enter Tryz.func82, Tryz.ntmps82
   go_wp2_with fail
   refine hc.out.mono ?_
   rintro e w1 ⟨rfl, hb1⟩
   dsimp only
   go_wp2_with fail
   go_ret
   exact ⟨ret_bool hv.out.symm, bgo hb1 (balloc _ _)⟩
 · obtain ⟨s1, s2, s3, s4, s5, s6⟩ := partsG_ok l s hpt
   rw [hpt] at hc
   replace hc : Hid (Calls _ _ _ _ (ParseSome s w)) := hc
   by_cases hp : p.length = 32
   · by_cases hm2 : m.length ≤ 65535
     · have hv : Hid (verifyG p m l = checkI p ((2 ^ s.height : Nat) : Int) (s.index : Int) (recG (digG p s.index m) s.elements) s.path) := by
        show _ = _
        have := pow_le64 s.height s1
        rw [checkI_in _ _ _ _ _ (by omega) (by omega) s2, verifyG, hpt]
        simp [hp, hm2]
       have hpw := wrap_pow s.height s1
       have hpw3 := wrap_pow2 s.height s1
       have hp64 := pow_le64 s.height s1
       have hix : s.index < 4294967296 := Nat.lt_of_lt_of_le s2 (Nat.le_trans hp64.2 (by omega))
       have hpl : p.length ≤ 1048576 := by omega
       have hdg := fun (W : World) (hW : Below w.heap.size w W) => digest_any B (.slice A p.length c) (.slice A2 m.length c2) p m s.index W (hu.below (hW.mono hB)) (hu2.below (hW.mono hB)) (Nat.le_trans hB hW.size) hpl hm hix
       clear hpl
       have hpw2 := fun (W : World) (hW : Below w.heap.size w W) => hu.below (hW.mono hB)
       rw [hp] at hdg hpw2 ⊢
       have i0 : ¬ ((65535 : Int) < (m.length : Int)) := by omega
       have hd16 : Hid ((digG p s.index m).length = 16) := short_len _
       generalize digG p s.index m = DG at *
       obtain ⟨h, i, es, ps⟩ := s
       dsimp only at *
       generalize 2 ^ h = N at *
       replace hdg := Lib.hid hdg
       replace hpw2 := Lib.hid hpw2
       replace s3 := Lib.hid s3
       replace s4 := Lib.hid s4
       replace s5 := Lib.hid s5
       replace s6 := Lib.hid s6
       clear hpt hp hu hu2
       go_enter Tryz.func82, Tryz.ntmps82
       go_wp2_with fail
       refine hc.out.mono ?_
       rintro e w1 ⟨v1, v2, rfl, h1, h2, hb1⟩
       obtain ⟨A4, c4, rfl⟩ := h1.shape
       obtain ⟨A5, c5, rfl⟩ := h2.shape
       have hal := balloc w1 (.cells #[.int .i64 (h : Int), .int .i64 (i : Int), .slice A4 es.length c4, .slice A5 ps.length c5] 181)
       have hx := Box.new w1 181 [.int .i64 (h : Int), .int .i64 (i : Int), .slice A4 es.length c4, .slice A5 ps.length c5]
       change Box (w1.alloc (.cells #[.int .i64 (h : Int), .int .i64 (i : Int), .slice A4 es.length c4, .slice A5 ps.length c5] 181)) _ _ _ at hx
       replace h1 := Lib.hid (h1.below hal)
       replace h2 := Lib.hid (h2.below hal)
       have hb2 := Lib.hid (bgo hb1 hal)
       dsimp only
       go_upto_region 4 with (fail)
       generalize w1.alloc (.cells #[.int .i64 (h : Int), .int .i64 (i : Int), .slice A4 es.length c4, .slice A5 ps.length c5] 181) = W2 at *
       generalize w1.heap.size = G at *
       have K : Hid (∀ W : World, Below W2.heap.size W2 W → W.cell? ⟨G, 0, none⟩ = some (.int .i64 (h : Int)) ∧ W.cell? ⟨G, 1, none⟩ = some (.int .i64 (i : Int)) ∧ W.cell? ⟨G, 2, none⟩ = some (.slice A4 es.length c4) ∧ W.cell? ⟨G, 3, none⟩ = some (.slice A5 ps.length c5)) :=
        fun W hW => ⟨(hx.below hW).cell 0, (hx.below hW).cell 1, (hx.below hW).cell 2, (hx.below hW).cell 3⟩
       obtain ⟨x0, x1, x2, x3⟩ := K.out W2 (Below.refl _ _)
       have hdg2 := Lib.hid (hdg.out W2.drew hb2.out.drew)
       have hrc : Hid (∀ W v, Below W2.heap.size W2 W → SeesB W W.heap.size v DG → Calls Tryz.prog 150 #[v, .slice A4 es.length c4] W (RecPost (recG DG es) W)) := fun W v hW hv => recover_any W.heap.size v (.slice A4 es.length c4) DG es W hv (h1.out.below hW).sees (Nat.le_refl _) hd16.out s3.out s4.out
       have hr16 : (recG DG es).length = 16 := short_len _
       have hck : Hid (∀ W v, Below W2.heap.size W2 W → SeesB W W.heap.size v (recG DG es) → Calls Tryz.prog 83 #[.slice A 32 c, .int .i64 (N : Int), .int .i64 (i : Int), v, .slice A5 ps.length c5] W (BoolPost (checkI p (N : Int) (i : Int) (recG DG es) ps) W)) := fun W v hW hv => check_any p (N : Int) (i : Int) (recG DG es) ps W.heap.size (.slice A 32 c) v (.slice A5 ps.length c5) W ((hpw2.out W (bgo hb2.out hW)).more (Nat.le_trans hB (bgo hb2.out hW).size)) hv (h2.out.below hW).sees (Nat.le_refl _) (by omega) (fun x hx => by rw [s6.out x hx]; omega)
       generalize recG DG es = RG at *
       replace hr16 := Lib.hid hr16
       clear hx hal hdg hpw2 h1 h2
       go_region_held3 (fun W' : World => W'.cell? ⟨G, 0, none⟩ = some (.int .i64 (h : Int)) ∧ W'.cell? ⟨G, 1, none⟩ = some (.int .i64 (i : Int)) ∧ W'.cell? ⟨G, 2, none⟩ = some (.slice A4 es.length c4) ∧ W'.cell? ⟨G, 3, none⟩ = some (.slice A5 ps.length c5))
        (first | exact K.out _ hb4 | exact K.out _ hb3 | (go_keep; done))
        (first
         | (go_at_call 150; refine (hrc.out _ _ hb3 k3).mono ?_; rintro e w4 ⟨v4, rfl, k4, hb4, -⟩
            obtain ⟨A7, c7, rfl, -, -⟩ := k4.mk_
            replace hb4 := bgo hb3 hb4)
         | (go_at_call 139; refine hdg2.out.mono ?_; rintro e w3 ⟨v3, rfl, k3, hb3, -⟩
            obtain ⟨A6, c6, rfl, -, -⟩ := k3.mk_
            replace hb3 := (bdrew W2).trans hb3))
       all_goals
        clear x0 x1 x2 x3
        obtain ⟨x0, x1, x2, x3⟩ := K.out w4 hb4
        have hck2 := Lib.hid (hck.out w4.drew _ (hb4.drew) k4)
        replace K : Hid (∀ W : World, Below w4.heap.size w4 W → W.cell? ⟨G, 0, none⟩ = some (.int .i64 (h : Int)) ∧ W.cell? ⟨G, 1, none⟩ = some (.int .i64 (i : Int)) ∧ W.cell? ⟨G, 2, none⟩ = some (.slice A4 es.length c4) ∧ W.cell? ⟨G, 3, none⟩ = some (.slice A5 ps.length c5)) := fun W hW => K.out W (bgo hb4 hW)
        replace hb4 := Lib.hid hb4
        clear hck hrc hdg2 k3 hb3 k4
        go_wp2_with fail
        go_region_held3 (fun W' : World => W'.cell? ⟨G, 0, none⟩ = some (.int .i64 (h : Int)) ∧ W'.cell? ⟨G, 1, none⟩ = some (.int .i64 (i : Int)) ∧ W'.cell? ⟨G, 2, none⟩ = some (.slice A4 es.length c4) ∧ W'.cell? ⟨G, 3, none⟩ = some (.slice A5 ps.length c5))
         (first | exact K.out _ ((bdrew w4).trans hb5) | (go_keep; done))
         (first
          | (go_at_call 83; refine hck2.out.mono ?_; rintro e w5 ⟨rfl, hb5⟩))
        all_goals
         go_wp2_with fail
         go_ret
         exact ⟨ret_bool hv.out.symm, bgo (bgo hb2.out hb4.out) ((bdrew w4).trans hb5)⟩
     · have hv : Hid (verifyG p m l = false) := by
        show _ = _
        rw [verifyG]; split <;> simp [hm2]
       have i0 : (65535 : Int) < (m.length : Int) := by omega
       rw [hp]
       clear hu hu2 hpt hp s2 s3 s4 s5 s6
       go_enter Tryz.func82, Tryz.ntmps82
       go_wp2_with fail
       refine hc.out.mono ?_
       rintro e w1 ⟨v1, v2, rfl, h1, h2, hb1⟩
       obtain ⟨A4, c4, rfl⟩ := h1.shape
       obtain ⟨A5, c5, rfl⟩ := h2.shape
       clear h1 h2
       dsimp only
       go_wp2_with fail
       go_ret
       exact ⟨ret_bool hv.out.symm, bgo hb1 (balloc _ _)⟩
   · have hv : Hid (verifyG p m l = false) := by
      show _ = _
      rw [verifyG]; split <;> simp [hp]
     have i0 : ((p.length : Int) != 32) = true := by rw [bne_iff_ne]; omega
     clear hu hu2 hpt s2 s3 s4 s5 s6
     go_enter Tryz.func82, Tryz.ntmps82
     go_wp2_with fail
     refine hc.out.mono ?_
     rintro e w1 ⟨v1, v2, rfl, h1, h2, hb1⟩
     obtain ⟨A4, c4, rfl⟩ := h1.shape
     obtain ⟨A5, c5, rfl⟩ := h2.shape
     clear h1 h2
     dsimp only
     go_wp2_with fail
     go_ret
     exact ⟨ret_bool hv.out.symm, bgo hb1 (balloc _ _)⟩
def pubC (seed : Bs) (h : Int) : Int := if seed.length = 32 then (if 0 ≤ h ∧ h ≤ 6 then 0 else 4) else 5
def pubG (seed : Bs) (h : Int) : Bs := if seed.length = 32 ∧ 0 ≤ h ∧ h ≤ 6 then keyG seed h.toNat else []
def KeyPost (seed : Bs) (h : Int) (w : World) (e : Ending) (w' : World) : Prop :=
 ∃ v, e = .returned (.tuple #[v, .int .i64 (pubC seed h)]) ∧ SeesB w' w'.heap.size v (pubG seed h) ∧ Below w.heap.size w w'
theorem nilB (w : World) (B : Nat) : SeesB w B (.slice none 0 0) [] := by
 exact SeesB.nil w B
theorem key_root (seed : Bs) (k : Nat) : rootG ((leavesL seed (2 ^ k)).map leafH) = keyG seed k := rfl
set_option maxRecDepth 100000 in
theorem rpublic_any (B : Nat) (u : Value) (seed : Bs) (h : Int) (w : World) (hu : SeesB w B u seed) (hB : B ≤ w.heap.size) :
 Calls Tryz.prog 68 #[u, .int .i64 h] w (KeyPost seed h w) := by
 by_cases hl : seed.length = 32
 · by_cases hh : 0 ≤ h ∧ h ≤ 6
   · obtain ⟨h0, h1⟩ := hh
     obtain ⟨k, rfl⟩ := Int.eq_ofNat_of_zero_le h0
     have hc := rleaves_any B u seed k w hu hB hl (by omega)
     have hv : Hid (pubC seed k = 0) := by show _ = _; simp [pubC, hl]; omega
     have hv2 : Hid (pubG seed k = keyG seed k) := by show _ = _; simp [pubG, hl]; omega
     have j0 : decide ((k : Int) < 0) = false := by simp
     have j1 : ¬ ((6 : Int) < (k : Int)) := by omega
     replace hc : Hid (Calls _ _ _ _ (GivesL (leavesL seed (2 ^ k)) w)) := hc
     have hlen := leavesL_len seed (2 ^ k)
     have hp := pow_le64 k (by omega)
     have hel := Lib.hid (leavesL_el seed (2 ^ k))
     obtain ⟨A, c, rfl, -, -⟩ := hu.mk_
     rw [hl] at hc ⊢
     clear hu hl
     rw [← key_root] at hv2
     generalize leavesL seed (2 ^ k) = ls at *
     go_enter Tryz.func68, Tryz.ntmps68
     go_wp2_with fail
     refine hc.out.mono ?_
     rintro e w1 ⟨v, rfl, k1, hb1⟩
     dsimp only
     go_wp2_with fail
     refine (rroot_top ls _ _ _ k1.sees (Nat.le_refl _) (by omega) (fun l hx => by have := hel.out l hx; omega)).mono ?_
     rintro e w2 ⟨v2, rfl, h2, hb2⟩
     dsimp only
     go_wp2_with fail
     go_returns
     exact ⟨v2, by rw [hv.out]; rfl, by rw [hv2.out]; exact h2.sees, bgo hb1 hb2⟩
   · have hv : Hid (pubC seed h = 4) := by show _ = _; simp [pubC, hl, hh]
     have hv2 : Hid (pubG seed h = []) := by show _ = _; simp [pubG, hl, hh]
     obtain ⟨A, c, rfl, -, -⟩ := hu.mk_
     rw [hl]
     clear hu hl
     by_cases h0 : h < 0
     · go_enter Tryz.func68, Tryz.ntmps68
       go_wp2_with fail
       go_returns
       exact ⟨.slice none 0 0, by rw [hv.out]; rfl, by rw [hv2.out]; exact nilB _ _, Below.refl _ _⟩
     · have h1 : (6 : Int) < h := by omega
       have h2 : decide (h < 0) = false := by simpa using h0
       go_enter Tryz.func68, Tryz.ntmps68
       go_wp2_with fail
       go_returns
       exact ⟨.slice none 0 0, by rw [hv.out]; rfl, by rw [hv2.out]; exact nilB _ _, Below.refl _ _⟩
 · have hv : Hid (pubC seed h = 5) := by show _ = _; simp [pubC, hl]
   have hv2 : Hid (pubG seed h = []) := by show _ = _; simp [pubG, hl]
   have i0 : ((seed.length : Int) != 32) = true := by rw [bne_iff_ne]; omega
   obtain ⟨A, c, rfl, -, -⟩ := hu.mk_
   clear hu hl
   go_enter Tryz.func68, Tryz.ntmps68
   go_wp2_with fail
   go_returns
   exact ⟨.slice none 0 0, by rw [hv.out]; rfl, by rw [hv2.out]; exact nilB _ _, Below.refl _ _⟩
end Go.Proofs.YtgehkgjllhkhoaaGreat
