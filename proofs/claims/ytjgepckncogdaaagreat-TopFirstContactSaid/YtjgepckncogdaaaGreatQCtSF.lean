/- What a law leans on beyond the base: contracts, plain functions, walks. Conditions: those of each theorem. -/
import Derived.Test.YtjgepckncogdaaaGreatQC1
set_option linter.unusedVariables false
set_option linter.unusedSimpArgs false
namespace Go.Proofs.YtjgepckncogdaaaGreat
open Go Go.RowKit
set_option linter.unusedVariables false
attribute [local go_sem ↓] Go.wp_at_zero Go.wp_at_succ
def SignOkF (seed : Bs) (h i : Nat) (m : Bs) (w : World) (e : Ending) (w' : World) : Prop :=
 ∃ v v2, e = .returned (.tuple #[.agg #[v, .int .i64 (h : Int), .int .i64 ((i + 1 : Nat) : Int)], v2, .int .i64 0]) ∧ SeesB w' w'.heap.size v seed ∧ SeesB w' w'.heap.size v2 (sigG seed h i m) ∧ From w.heap.size v2 ∧ Below w.heap.size w w'
set_option maxRecDepth 100000 in
set_option maxHeartbeats 4000000 in
theorem rsignF_ok (B : Nat) (u u2 : Value) (seed m : Bs) (h i : Nat) (w : World) (hu : SeesB w B u seed) (hu2 : SeesB w B u2 m) (hB : B ≤ w.heap.size) (hl : seed.length = 32) (hh : h ≤ 6) (hi : i < 2 ^ h) (hm : m.length ≤ 65535) :
 Calls Tryz.prog 114 #[.agg #[u, .int .i64 (h : Int), .int .i64 (i : Int)], u2] w (SignOkF seed h i m w) := by
 obtain ⟨A, c, rfl, -, -⟩ := hu.mk_
 obtain ⟨AA, cc, rfl, -, -⟩ := hu2.mk_
 have hvI := validI_mk seed h i hl hh (Nat.le_of_lt hi)
 have hp := wrap_pow h hh
 have m0 : IntKind.u64.wrap (h : Int) = (h : Int) := by rw [IntKind.wrap_u64]; omega
 have hp64 := pow_le64 h hh
 have hval := fun W (hW : SeesB W B (.slice A seed.length c) seed) => rsvalid_any B _ seed h i W hW
 rw [hvI] at hval
 have hlv := fun W (hW : SeesB W W.heap.size (.slice A seed.length c) seed) => rleaves_any W.heap.size _ seed h W hW (Nat.le_refl _) hl hh
 have hsg := fun W (v2 : Value) (d : Bs) (hd : d.length = 16) (hW : SeesB W W.heap.size (.slice A seed.length c) seed) (h2 : SeesB W W.heap.size v2 d) => rotsign_any W.heap.size _ v2 seed d i W hW h2 (Nat.le_refl _) hl hd (by omega)
 have hdg := fun W (v2 : Value) (p : Bs) (hp : p.length = 32) (hW : SeesB W W.heap.size v2 p) (h2 : SeesB W W.heap.size (.slice AA m.length cc) m) => rdigest_any W.heap.size v2 _ p m i W hW h2 (Nat.le_refl _) (by omega) (by omega) (by omega)
 rw [hl] at hu hval hlv hsg ⊢
 replace hu := Lib.hid hu
 replace hu2 := Lib.hid hu2
 replace hvI := Lib.hid hvI
 replace hval := Lib.hid hval
 replace hlv := Lib.hid hlv
 replace hsg := Lib.hid hsg
 replace hdg := Lib.hid hdg
 replace hl := Lib.hid hl
 have hkl := Lib.hid (keyG_len seed h)
 have hleaves := Lib.hid (leavesL_len seed (2 ^ h))
 have hsig : Hid ([UInt8.ofNat h] ++ putB 4 i ++ (signL seed i (digG (keyG seed h) i m)).flatten ++ (pathG (hashesG seed h) i).flatten = sigG seed h i m) := rfl
 have hkey : Hid (rootG ((leavesL seed (2 ^ h)).map leafH) = keyG seed h) := rfl
 have hpath : Hid (pathG ((leavesL seed (2 ^ h)).map leafH) i = pathG (hashesG seed h) i) := rfl
 have hel : Hid (∀ x ∈ leavesL seed (2 ^ h), x.length = 16) := leavesL_el seed _
 have hpl := Lib.hid (pathG_len h _ i (hashesG_len seed h))
 have hpe : Hid (∀ x ∈ pathG (hashesG seed h) i, x.length = 32) := pathG_el _ _ _ (Nat.le_refl _) (hashesG_el seed h)
 generalize leavesL seed (2 ^ h) = LV at *
 generalize hN : 2 ^ h = N at *
 have hi2 : ((i : Int) == (N : Int)) = false := by rw [beq_eq_false_iff_ne]; omega
 replace hN := Lib.hid hN
 go_enter Tryz.func114, Tryz.ntmps114
 go_wp2_with fail
 have hb0 : Below w.heap.size w ((w.alloc (.cells #[.slice A 32 c, .int .i64 (h : Int), .int .i64 (i : Int)] 27)).alloc (.cells #[.slice none 0 0, .int .i64 0, .int .i64 0] 27)) := bgo (balloc w _) (balloc _ _)
 have hx1 := Box.below (Box.new w 27 [.slice A 32 c, .int .i64 (h : Int), .int .i64 (i : Int)]) (balloc _ (.cells #[.slice none 0 0, .int .i64 0, .int .i64 0] 27))
 have hx2 := Box.new (w.alloc (.cells #[.slice A 32 c, .int .i64 (h : Int), .int .i64 (i : Int)] 27)) 27 [.slice none 0 0, .int .i64 0, .int .i64 0]
 have hz : (w.alloc (.cells #[.slice A 32 c, .int .i64 (h : Int), .int .i64 (i : Int)] 27)).heap.size = w.heap.size + 1 := World.size_alloc _ _
 rw [hz] at hx2
 change Box ((w.alloc (.cells #[.slice A 32 c, .int .i64 (h : Int), .int .i64 (i : Int)] 27)).alloc (.cells #[.slice none 0 0, .int .i64 0, .int .i64 0] 27)) _ _ _ at hx1 hx2
 generalize (w.alloc (.cells #[.slice A 32 c, .int .i64 (h : Int), .int .i64 (i : Int)] 27)).alloc (.cells #[.slice none 0 0, .int .i64 0, .int .i64 0] 27) = W0 at *
 clear hz
 obtain ⟨g, hg⟩ : ∃ g, g = w.heap.size := ⟨_, rfl⟩
 rw [← hg] at hx1 hx2 ⊢
 replace hg := Lib.hid hg
 replace hb0 := Lib.hid hb0
 refine (hval.out W0 (hu.out.below (hb0.out.mono hB))).mono ?_
 rintro e W1 ⟨rfl, hb1⟩
 replace hx1 := hx1.below hb1
 replace hx2 := hx2.below hb1
 replace hb1 := Lib.hid (bgo hb0.out hb1)
 have c0 : W1.cell? ⟨g, 0, none⟩ = some (.slice A 32 c) := hx1.cell 0
 have c1 : W1.cell? ⟨g, 1, none⟩ = some (.int .i64 (h : Int)) := hx1.cell 1
 have c2 : W1.cell? ⟨g, 2, none⟩ = some (.int .i64 (i : Int)) := hx1.cell 2
 clear hval hb0
 replace hx1 := Lib.hid hx1
 replace hx2 := Lib.hid hx2
 dsimp only
 go_wp2_with fail
 have hx1q : Box W1 g 27 _ := hx1.out
 have hx2q : Box W1 (g + 1) 27 _ := hx2.out
 have hb1q := hb1.out
 clear hx1 hx2 hb1 c0 c1 c2
 refine (hlv.out W1 (seesB_of (hu.out.more hB) (Nat.le_refl _) hb1q)).mono ?_
 rintro e W2 ⟨v2, rfl, h2, hb2⟩
 have hrt := rroot_top LV W2.heap.size v2 W2 h2.sees (Nat.le_refl _) (by rw [hleaves.out]; omega) (fun x hx => by rw [hel.out x hx]; omega)
 unfold RootPost at hrt
 rw [hkey.out] at hrt
 obtain ⟨A2, c2', rfl⟩ := h2.shape
 rw [hleaves.out] at hrt h2 ⊢
 replace hx1 := hx1q.below hb2
 replace hx2 := hx2q.below hb2
 replace hb2 := bgo hb1q hb2
 replace h2 := Lib.hid h2
 replace hrt := Lib.hid hrt
 clear hlv hx1q hx2q hb1q
 dsimp only
 go_wp2_with fail
 refine hrt.out.mono ?_
 rintro e W3 ⟨v3, rfl, h3, hb3⟩
 replace h2 := h2.out.below hb3
 replace hx1 := hx1.below hb3
 replace hx2 := hx2.below hb3
 replace hb3 := bgo hb2 hb3
 clear hb2 hrt
 have c0 : W3.cell? ⟨g, 0, none⟩ = some (.slice A 32 c) := hx1.cell 0
 have c1 : W3.cell? ⟨g, 1, none⟩ = some (.int .i64 (h : Int)) := hx1.cell 1
 have c2 : W3.cell? ⟨g, 2, none⟩ = some (.int .i64 (i : Int)) := hx1.cell 2
 obtain ⟨A3, c3, rfl, -, -⟩ := h3.sees.mk_
 rw [hkl.out] at h3 ⊢
 have hgl := hx1.lt
 have hgl2 := hx2.lt
 replace hx1 := Lib.hid hx1
 replace hx2 := Lib.hid hx2
 replace hb3 := Lib.hid hb3
 replace h3 := Lib.hid h3
 replace h2 := Lib.hid h2
 dsimp only
 go_wp2_with fail
 have hpt := rpath_top LV i W3.heap.size (.slice A2 N c2') W3 h2.out.sees (by rw [hleaves.out]; exact hi) (Nat.le_refl _) (by rw [hleaves.out]; omega) (fun x hx => by rw [hel.out x hx]; omega)
 unfold PathPost at hpt
 rw [hpath.out] at hpt
 generalize pathG (hashesG seed h) i = PT at *
 refine hpt.mono ?_
 rintro e W6 ⟨v5, rfl, h56, hb5⟩
 obtain ⟨A5, c5, rfl⟩ := h56.shape
 rw [hpl.out] at h56 ⊢
 have hx16 := hx1.out.below hb5
 have hx26 := hx2.out.below hb5
 have h36 := (h3.out.below hb5).sees
 have hb6 := bgo hb3.out hb5
 clear hpt h2 h3 hx1 hx2 hb3 hb5 c0 c1 c2 hgl hgl2
 have hg0 := Lib.hid (hdg.out W6.drew (.slice A3 32 c3) (keyG seed h) hkl.out h36 (seesB_of (hu2.out.more hB) (Nat.le_refl _) (hb6.drew)))
 have hd16 : Hid ((digG (keyG seed h) i m).length = 16) := short_len _
 generalize digG (keyG seed h) i m = DG at *
 have hsg2 : Hid (∀ W v2, Below W6.heap.size W6 W → SeesB W W.heap.size v2 DG → Calls Tryz.prog 184 #[.slice A 32 c, .int .i64 (i : Int), v2] W (OtSignPost (signL seed i DG) W)) :=
  fun W v2 hbW h2 => hsg.out W v2 DG hd16.out (seesB_of (hu.out.more hB) (Nat.le_refl _) (bgo hb6 hbW)) h2
 have K : Hid (∀ W : World, Below W6.heap.size W6 W → W.cell? ⟨g, 0, none⟩ = some (.slice A 32 c) ∧ W.cell? ⟨g, 1, none⟩ = some (.int .i64 (h : Int)) ∧ W.cell? ⟨g, 2, none⟩ = some (.int .i64 (i : Int))) :=
  fun W hW => ⟨(hW.cell (p := ⟨g, 0, none⟩) hx16.lt).trans (hx16.cell 0), (hW.cell (p := ⟨g, 1, none⟩) hx16.lt).trans (hx16.cell 1), (hW.cell (p := ⟨g, 2, none⟩) hx16.lt).trans (hx16.cell 2)⟩
 have y0 : W6.cell? ⟨g, 0, none⟩ = some (.slice A 32 c) := hx16.cell 0
 have y2 : W6.cell? ⟨g, 2, none⟩ = some (.int .i64 (i : Int)) := hx16.cell 2
 replace hx26 := Lib.hid hx26
 replace h56 := Lib.hid h56
 replace hb6 := Lib.hid hb6
 clear hdg hsg h36 hx16
 dsimp only
 go_wp2_with fail
 go_region_held3 (fun W' : World => W'.cell? ⟨g, 0, none⟩ = some (.slice A 32 c) ∧ W'.cell? ⟨g, 1, none⟩ = some (.int .i64 (h : Int)) ∧ W'.cell? ⟨g, 2, none⟩ = some (.int .i64 (i : Int)))
  (first | exact K.out _ hb8 | exact K.out _ hb7 | exact K.out _ (bdrew W6) | exact K.out _ (Below.refl _ _) | (go_keep; done))
  (first
   | (go_at_call 184; refine (hsg2.out _ _ hb7 h7).mono ?_; rintro e W8 ⟨v8, rfl, h8, hb8⟩
      obtain ⟨A8, c8, rfl⟩ := h8.shape
      replace hb8 := bgo hb7 hb8)
   | (go_at_call 185; refine hg0.out.mono ?_; rintro e W7 ⟨v7, rfl, h7, hb7, -⟩
      obtain ⟨A7, c7, rfl, -, -⟩ := h7.mk_
      replace hb7 := (bdrew W6).trans hb7))
 all_goals
  have hsl := signL_len seed i DG
  have hse := signL_el seed i DG
  have h58 := h56.out.below hb8
  have hx28 := hx26.out.below hb8
  replace K : Hid (∀ W : World, Below W8.heap.size W8 W → W.cell? ⟨g, 0, none⟩ = some (.slice A 32 c) ∧ W.cell? ⟨g, 1, none⟩ = some (.int .i64 (h : Int)) ∧ W.cell? ⟨g, 2, none⟩ = some (.int .i64 (i : Int))) := fun W hW => K.out W (bgo hb8 hW)
  replace hb8 := bgo hb6.out hb8
  obtain ⟨x0, x1, x2⟩ := K.out W8 (Below.refl _ _)
  generalize hSL : signL seed i DG = SL at *
  replace hSL := Lib.hid hSL
  rw [hsl] at h8 ⊢
  replace hsl := Lib.hid hsl
  replace hse := Lib.hid hse
  replace h8 := Lib.hid h8
  replace h58 := Lib.hid h58
  replace hx28 := Lib.hid hx28
  replace hb8 := Lib.hid hb8
  clear hb7 h7 hg0 hsg2 h56 hx26 hb6 y0 y2
  have m4 : IntKind.u64.wrap (i : Int) = (i : Int) := by rw [IntKind.wrap_u64]; omega
  have m5 : IntKind.u8.wrap (h : Int) = (h : Int) := by rw [IntKind.wrap_u8]; omega
  have hxb : Hid (((UInt8.ofNat h).toNat : Int) = (h : Int)) := by show _ = _; simp; omega
  have hput := Lib.hid (rput4_any i (by omega))
  have hf1 := flat_len 16 SL hse.out
  have hf2 := flat_len 32 PT hpe.out
  rw [hsl.out] at hf1
  rw [hpl.out] at hf2
  have hj1 : Hid (∀ W : World, Below W8.heap.size W8 W → Calls Tryz.prog 85 #[.slice A8 35 c8] W (Gives SL.flatten W)) := fun W hW => rjoin_any W8.heap.size _ SL W (h8.out.sees.below hW) hW.size (by omega)
  have hj2 : Hid (∀ W : World, Below W8.heap.size W8 W → Calls Tryz.prog 85 #[.slice A5 h c5] W (Gives PT.flatten W)) := fun W hW => rjoin_any W8.heap.size _ PT W (h58.out.sees.below hW) hW.size (by omega)
  have hl4 := Lib.hid (putB_len 4 i)
  have hfl : Hid ([[UInt8.ofNat h], putB 4 i, SL.flatten, PT.flatten].flatten = sigG seed h i m) := by rw [← hsig.out]; show _ = _; simp
  have hfll : Hid ([[UInt8.ofNat h], putB 4 i, SL.flatten, PT.flatten].flatten.length ≤ 1099511627776) := by show _ ≤ _; rw [hfl.out, sigG_len]; omega
  generalize hSG : sigG seed h i m = SG at *
  replace hSG := Lib.hid hSG
  generalize SL.flatten = L1 at *
  generalize PT.flatten = L2 at *
  clear hf1 hf2 hse hpe hsl hSL
  go_upto_region 11 with (fail)
  go_cut [14] (fun v W => ∃ A c, v = .slice A SG.length c ∧ Hid (OwnB W W8.heap.size v SG) ∧ Below W8.heap.size W8 W)
  case first =>
   go_region_held3 (fun W' : World => W'.cell? ⟨g, 0, none⟩ = some (.slice A 32 c) ∧ W'.cell? ⟨g, 1, none⟩ = some (.int .i64 (h : Int)) ∧ W'.cell? ⟨g, 2, none⟩ = some (.int .i64 (i : Int)))
    (first | exact K.out _ hb12 | (refine K.out _ ?_; (repeat (first | exact Below.refl _ _ | (refine bgo ?_ (balloc _ _)) | (refine bgo ?_ (bdrew _)) | (refine bgo ?_ (by assumption)))); done) | (go_keep; done))
    (first
     | (go_at_call_of 85 (A8); refine (hj1.out _ ?_).mono ?_
        focus ((repeat (first | exact Below.refl _ _ | (refine bgo ?_ (balloc _ _)) | (refine bgo ?_ (bdrew _)) | (refine bgo ?_ (by assumption)))); done)
        rintro e W10 ⟨v10, rfl, h10, hb10⟩
        obtain ⟨A10, c10, rfl, -, -⟩ := h10.sees.mk_)
     | (go_at_call_of 85 (A5); refine (hj2.out _ ?_).mono ?_
        focus ((repeat (first | exact Below.refl _ _ | (refine bgo ?_ (balloc _ _)) | (refine bgo ?_ (bdrew _)) | (refine bgo ?_ (by assumption)))); done)
        rintro e W11 ⟨v11, rfl, h11, hb11⟩
        obtain ⟨A11, c11, rfl, -, -⟩ := h11.sees.mk_)
     | (go_at_call 121; refine (hput.out _).mono ?_; rintro e W9 ⟨v9, rfl, h9, hb9⟩; obtain ⟨A9, c9, rfl, -, -⟩ := h9.sees.mk_)
     | (go_at_call 85; refine (rjoin_lit (vs := [_, _, _, _]) [[UInt8.ofNat h], putB 4 i, L1, L2] W8 _ _ ?_ ?_ ⟨?_, ?_, ?_, ?_, trivial⟩ (by simp) hfll.out).mono ?_
        focus (first | rfl | (simp; done))
        focus ((repeat (first | exact Below.refl _ _ | (refine bgo ?_ (balloc _ _)) | (refine bgo ?_ (bdrew _)) | (refine bgo ?_ (by assumption)))); done)
        focus (first | (refine seesB_of (one_byte W8 _ _ hxb.out).sees (Nat.le_refl _) ?_; (repeat (first | exact Below.refl _ _ | (refine bgo ?_ (balloc _ _)) | (refine bgo ?_ (bdrew _)) | (refine bgo ?_ (by assumption)))); done) | (refine seesB_of (one_byte W9 _ _ hxb.out).sees (Nat.le_refl _) ?_; (repeat (first | exact Below.refl _ _ | (refine bgo ?_ (balloc _ _)) | (refine bgo ?_ (bdrew _)) | (refine bgo ?_ (by assumption)))); done) | (refine seesB_of (one_byte W10 _ _ hxb.out).sees (Nat.le_refl _) ?_; (repeat (first | exact Below.refl _ _ | (refine bgo ?_ (balloc _ _)) | (refine bgo ?_ (bdrew _)) | (refine bgo ?_ (by assumption)))); done) | (refine seesB_of (one_byte W11 _ _ hxb.out).sees (Nat.le_refl _) ?_; (repeat (first | exact Below.refl _ _ | (refine bgo ?_ (balloc _ _)) | (refine bgo ?_ (bdrew _)) | (refine bgo ?_ (by assumption)))); done))
        focus (refine seesB_of h9.sees (Nat.le_refl _) ?_; (repeat (first | exact Below.refl _ _ | (refine bgo ?_ (balloc _ _)) | (refine bgo ?_ (bdrew _)) | (refine bgo ?_ (by assumption)))); done)
        focus (refine seesB_of h10.sees (Nat.le_refl _) ?_; (repeat (first | exact Below.refl _ _ | (refine bgo ?_ (balloc _ _)) | (refine bgo ?_ (bdrew _)) | (refine bgo ?_ (by assumption)))); done)
        focus (refine seesB_of h11.sees (Nat.le_refl _) ?_; (repeat (first | exact Below.refl _ _ | (refine bgo ?_ (balloc _ _)) | (refine bgo ?_ (bdrew _)) | (refine bgo ?_ (by assumption)))); done)
        rintro e W12 ⟨v12, rfl, h12, hb12⟩
        rw [hfl.out] at h12
        obtain ⟨A12, c12, rfl, -, -⟩ := h12.sees.mk_))
   all_goals
    go_wp2_with fail
    go_meet
    exact ⟨A12, c12, rfl, h12, hb12⟩
  case rest =>
   obtain ⟨A12, c12, rfl, h12, hb12⟩ := hcut
   replace h12 := h12.out
   obtain ⟨W12, rfl⟩ : ∃ W : World, W = wc := ⟨_, rfl⟩
   have hlt8 := Lib.hid hx28.out.lt
   have hx2 := hx28.out.below hb12
   replace hb8 := Lib.hid (bgo hb8.out hb12)
   replace K : Hid (∀ W : World, Below W12.heap.size W12 W → W.cell? ⟨g, 0, none⟩ = some (.slice A 32 c) ∧ W.cell? ⟨g, 1, none⟩ = some (.int .i64 (h : Int)) ∧ W.cell? ⟨g, 2, none⟩ = some (.int .i64 (i : Int))) := fun W hW => K.out W (bgo hb12 hW)
   have K3 : Hid (∀ (W : World) (a b d : Value), Below W12.heap.size W12 W → (((W.setCell ⟨g + 1, 0, none⟩ a).setCell ⟨g + 1, 1, none⟩ b).setCell ⟨g + 1, 2, none⟩ d).cell? ⟨g, 0, none⟩ = some (.slice A 32 c) ∧ (((W.setCell ⟨g + 1, 0, none⟩ a).setCell ⟨g + 1, 1, none⟩ b).setCell ⟨g + 1, 2, none⟩ d).cell? ⟨g, 1, none⟩ = some (.int .i64 (h : Int)) ∧ (((W.setCell ⟨g + 1, 0, none⟩ a).setCell ⟨g + 1, 1, none⟩ b).setCell ⟨g + 1, 2, none⟩ d).cell? ⟨g, 2, none⟩ = some (.int .i64 (i : Int))) :=
    fun W a b d hW => by
     obtain ⟨k0, k1, k2⟩ := K.out W hW
     have e1 : ∀ o, (⟨g, o, none⟩ : Addr).block ≠ g + 1 := fun o => by dsimp only; omega
     exact ⟨(cell_set3 W _ _ (e1 0) a b d).trans k0, (cell_set3 W _ _ (e1 1) a b d).trans k1, (cell_set3 W _ _ (e1 2) a b d).trans k2⟩
   obtain ⟨y0, y1, y2⟩ := K.out W12 (Below.refl _ _)
   have Z : Hid (∀ W : World, Below W12.heap.size W12 W → Box W (g + 1) 27 [.slice none 0 0, .int .i64 0, .int .i64 0]) := fun W hW => hx2.below hW
   have hlt1 := hx2.lt
   have hfs : Hid ([seed].flatten = seed) := by show _ = _; simp
   have hjs := rjoin_any _ _ [seed] (W12.alloc (.cells #[.slice A 32 c] 25)).drew (SeesL.below (seesL_lit W12 25 (vs := [.slice A 32 c]) (ls := [seed]) ⟨seesB_of (hu.out.more hB) (Nat.le_refl _) hb8.out, trivial⟩ (by simp [maxLen])) (bdrew _)) (Nat.le_refl _) (by rw [hfs.out, hl.out]; omega)
   rw [hfs.out] at hjs
   replace hjs := Lib.hid hjs
   have m6 : IntKind.i64.wrap ((i : Int) + 1) = (i : Int) + 1 := by rw [IntKind.wrap_i64]; omega
   replace h12 := Lib.hid h12
   clear hb12 hx28 hx2 hj1 hj2 hput h8 h58 hfl hfll
   go_wp2_with fail
   go_region_held3 (fun W' : World => W'.cell? ⟨g, 0, none⟩ = some (.slice A 32 c) ∧ W'.cell? ⟨g, 1, none⟩ = some (.int .i64 (h : Int)) ∧ W'.cell? ⟨g, 2, none⟩ = some (.int .i64 (i : Int)))
    (first | exact K.out _ hb13 | exact K3.out _ _ _ _ hb13 | (refine K.out _ ?_; (repeat (first | exact Below.refl _ _ | (refine bgo ?_ (balloc _ _)) | (refine bgo ?_ (bdrew _)) | (refine bgo ?_ (by assumption)))); done) | (go_keep; done))
    (first
     | (go_at_call 85; refine hjs.out.mono ?_; rintro e W13 ⟨v13, rfl, h13, hb13⟩
        obtain ⟨A13, c13, rfl, -, -⟩ := h13.sees.mk_
        replace hb13 := bgo (balloc W12 (.cells #[.slice A 32 c] 25)) ((bdrew _).trans hb13)
        have h12' := h12.out.below hb13
        have hz := Z.out W13 hb13
        have z0 : W13.cell? ⟨g + 1, 0, none⟩ = some (.slice none 0 0) := hz.cell 0
        have z1 : W13.cell? ⟨g + 1, 1, none⟩ = some (.int .i64 0) := hz.cell 1
        have z2 : W13.cell? ⟨g + 1, 2, none⟩ = some (.int .i64 0) := hz.cell 2
        have f0 := hz.frozen 0
        have f1 := hz.frozen 1
        have f2 := hz.frozen 2))
   all_goals
    have k10 : OwnB (((W13.setCell ⟨g + 1, 0, none⟩ (.slice A13 seed.length c13)).setCell ⟨g + 1, 1, none⟩ (.int .i64 (h : Int))).setCell ⟨g + 1, 2, none⟩ (.int .i64 ((i : Int) + 1))) W12.heap.size (.slice A13 seed.length c13) seed :=
     ownsRow_setCell_below (ownsRow_setCell_below (ownsRow_setCell_below (OwnB.mono h13 (balloc W12 _).size) (by dsimp only; exact hlt1) _) (by dsimp only; exact hlt1) _) (by dsimp only; exact hlt1) _
    have k11 : OwnB (((W13.setCell ⟨g + 1, 0, none⟩ (.slice A13 seed.length c13)).setCell ⟨g + 1, 1, none⟩ (.int .i64 (h : Int))).setCell ⟨g + 1, 2, none⟩ (.int .i64 ((i : Int) + 1))) W8.heap.size (.slice A12 SG.length c12) SG :=
     ownsRow_setCell_below (ownsRow_setCell_below (ownsRow_setCell_below h12' (by dsimp only; exact hlt8.out) _) (by dsimp only; exact hlt8.out) _) (by dsimp only; exact hlt8.out) _
    have kz := ((hz.set 0 (.slice A13 seed.length c13)).set 1 (.int .i64 (h : Int))).set 2 (.int .i64 ((i : Int) + 1))
    simp only [List.set_cons_succ, List.set_cons_zero] at kz
    have hgw : w.heap.size ≤ g + 1 := by have := hg.out; omega
    have hend : Below w.heap.size w (((W13.setCell ⟨g + 1, 0, none⟩ (.slice A13 seed.length c13)).setCell ⟨g + 1, 1, none⟩ (.int .i64 (h : Int))).setCell ⟨g + 1, 2, none⟩ (.int .i64 ((i : Int) + 1))) :=
     (((bgo hb8.out hb13).setCell (p := ⟨g + 1, 0, none⟩) hgw _).setCell (p := ⟨g + 1, 1, none⟩) hgw _).setCell (p := ⟨g + 1, 2, none⟩) hgw _
    clear h12' h13 hz z0 z1 z2 f0 f1 f2 hb13 K K3 Z
    generalize ((W13.setCell ⟨g + 1, 0, none⟩ (.slice A13 seed.length c13)).setCell ⟨g + 1, 1, none⟩ (.int .i64 (h : Int))).setCell ⟨g + 1, 2, none⟩ (.int .i64 ((i : Int) + 1)) = W14 at *
    have z0 : W14.cell? ⟨g + 1, 0, none⟩ = some (.slice A13 seed.length c13) := kz.cell 0
    have z1 : W14.cell? ⟨g + 1, 1, none⟩ = some (.int .i64 (h : Int)) := kz.cell 1
    have z2 : W14.cell? ⟨g + 1, 2, none⟩ = some (.int .i64 ((i : Int) + 1)) := kz.cell 2
    go_wp2_with fail
    refine bodyPost_ret (v := .tuple #[.agg #[.slice A13 seed.length c13, .int .i64 (h : Int), .int .i64 ((i : Int) + 1)], .slice A12 SG.length c12, .int .i64 0]) (by simp [results, Tryz.results114, go_sem, z0, z1, z2]) rfl ?_
    exact ⟨_, _, rfl, k10.sees, by rw [hSG.out]; exact k11.sees, OwnB.from (OwnB.mono k11 (by have := hlt8.out; have := hg.out; omega)), hend⟩
end Go.Proofs.YtjgepckncogdaaaGreat
