/- The walk of the law BlameWrites: it returns true, and what lay in memory stays. No conditions. -/
import Derived.Test.YtcoehlmeegoofaaGreatBLawP
import Derived.Test.YtcoehlmeegoofaaGreatDecB
import Derived.Test.YtcoehlmeegoofaaGreatRDecB
import Derived.Test.YtcoehlmeegoofaaGreatHeldJ
namespace Go.Proofs.YtcoehlmeegoofaaGreat
open Go Go.RowKit
set_option linter.unusedVariables false
set_option linter.unusedSimpArgs false
attribute [local go_sem ↓] Go.wp_at_zero Go.wp_at_succ
set_option maxRecDepth 100000 in
set_option maxHeartbeats 16000000 in
theorem blamewrites_law (B : Nat) (u : Value) (ls : List Lk) (w : World) (hu : SeesR w B u 3 ls.length (linkS ls)) (hB : B ≤ w.heap.size) (f s : Int) (wf : (Lit.int .i64 f).wf = true) (ws : (Lit.int .i64 s).wf = true) (B' : Nat) (v : Value) (raw : Bs) (hr : SeesB w B' v raw) (hB' : B' ≤ w.heap.size) (a : Int) (wa : (Lit.int .i64 a).wf = true) (b : Int) (wb : (Lit.int .i64 b).wf = true) :
    Calls Tryz.prog 3 #[.agg #[u, .int .i64 f, .int .i64 s], v, .int .i64 a, .int .i64 b] w fun e w' => e = .returned (.bool true) ∧ Below w.heap.size w w' := by
  obtain ⟨A, c, rfl, -, -⟩ := hu.mk_
  obtain ⟨A1, c1, rfl, -, -⟩ := hr.mk_
  have hal := balloc w (.cells #[.slice A ls.length c, .int .i64 f, .int .i64 s] 24)
  have x4 := Box.new w 24 [.slice A ls.length c, .int .i64 f, .int .i64 s]
  change Box (w.alloc (.cells #[.slice A ls.length c, .int .i64 f, .int .i64 s] 24)) _ _ _ at x4
  have huw := Lib.hid (hu.more hB)
  have hrw := Lib.hid (hr.more hB')
  have hu0 := Lib.hid (((hu.more hB).below hal).more hal.size)
  have hr0 := Lib.hid (seesB_of (hr.more hB') (Nat.le_refl _) hal)
  replace hal := Lib.hid hal
  clear hu hr
  go_enter Tryz.func3, Tryz.ntmps3
  go_upto_region 1 with (fail)
  generalize w.alloc (.cells #[.slice A ls.length c, .int .i64 f, .int .i64 s] 24) = W0 at *
  generalize hgg : w.heap.size = g4 at x4 ⊢
  have hg4 := Lib.hid (Nat.le_of_eq hgg)
  clear hgg
  have hli := Lib.hid (blight_any (.slice A ls.length c) ls f s W0 hu0.out)
  obtain ⟨k0, k1, k2, fr0, fr1, fr2⟩ := box3_cells x4
  by_cases hl : lightP ls = true
  rotate_left
  · rw [Bool.not_eq_true] at hl
    rw [hl] at hli
    go_wp2_with fail
    refine hli.out.mono ?_
    rintro e w1 ⟨rfl, hb1⟩
    have hbw := Lib.hid (bgo hal.out hb1)
    clear hli k0 k1 k2 fr0 fr1 fr2 x4 hal hb1
    dsimp only
    go_wp2_with fail
    refine (bknown_any _).mono ?_
    rintro e w2 ⟨rfl, hb2⟩
    replace hbw := Lib.hid (bgo hbw.out hb2)
    dsimp only
    go_wp2_with fail
    go_ret
    exact ⟨rfl, hbw.out⟩
  rw [hl] at hli
  have htot := Lib.hid (light_total hl)
  replace hl := Lib.hid hl
  by_cases hr6 : 600 < raw.length
  · have j0 : (600 : Int) < (raw.length : Int) := by omega
    go_wp2_with fail
    refine hli.out.mono ?_
    rintro e w1 ⟨rfl, hb1⟩
    have hbw := Lib.hid (bgo hal.out hb1)
    clear hli k0 k1 k2 fr0 fr1 fr2 x4 hal hb1
    dsimp only
    go_wp2_with fail
    refine (bknown_any _).mono ?_
    rintro e w2 ⟨rfl, hb2⟩
    replace hbw := Lib.hid (bgo hbw.out hb2)
    dsimp only
    go_wp2_with fail
    go_ret
    exact ⟨rfl, hbw.out⟩
  have j0 : ¬ (600 : Int) < (raw.length : Int) := by omega
  have hr600 : Hid (raw.length ≤ 600) := by show _ ≤ _; omega
  go_wp2_with fail
  refine hli.out.mono ?_
  rintro e w1 ⟨rfl, hb1⟩
  have x4w := x4.below hb1
  have hu1 := Lib.hid ((hu0.out.below hb1).more hb1.size)
  have hr1 := Lib.hid (seesB_of hr0.out (Nat.le_refl _) hb1)
  have hal1 := Lib.hid (bgo hal.out hb1)
  clear hli k0 k1 k2 fr0 fr1 fr2 x4 hal hb1 hu0 hr0
  dsimp only
  go_upto_region 3 with (fail)
  have kw1 := Lib.hid (fun W => kwithin_any a 9 (by omega) (by omega) W)
  have kw2 := Lib.hid (fun W => kwithin_any b 2 (by omega) (by omega) W)
  have kw3 := Lib.hid (fun W => kwithin_any b 300 (by omega) (by omega) W)
  have hbb2 : b % 2 = 0 ∨ b % 2 = 1 := by omega
  generalize a % 9 = a9 at *
  generalize b % 300 = b3 at *
  generalize hbb : b % 2 = b2 at *
  replace hbb := Lib.hid hbb
  go_cut [40] (fun v W => ∃ f' s' : Int, Box W g4 24 [.slice A ls.length c, .int .i64 f', .int .i64 s'] ∧ Below w.heap.size w W)
  case first =>
    rcases hbb2 with hb2 | hb2
    all_goals rw [hb2] at kw2
    · have r38 : (w1.alloc (.cells #[.int .i64 f, .int .i64 a9] 3)).cell? ⟨w1.heap.size, 0, none⟩ = some (.int .i64 f) := (Box.new w1 3 [.int .i64 f, .int .i64 a9]).cell 0
      have x4b := x4w.below (balloc w1 (.cells #[.int .i64 f, .int .i64 a9] 3))
      have x4c := x4b.set 1 (.int .i64 f)
      simp only [List.set_cons_zero, List.set_cons_succ] at x4c
      have hz := x4c.set 2 (.int .i64 b3)
      simp only [List.set_cons_zero, List.set_cons_succ] at hz
      have hbz := Below.setCell (Below.setCell (bgo hal1.out (balloc w1 (.cells #[.int .i64 f, .int .i64 a9] 3))) (p := ⟨g4, 1, none⟩) hg4.out (.int .i64 f)) (p := ⟨g4, 2, none⟩) hg4.out (.int .i64 b3)
      obtain ⟨k0, k1, k2, fr0, fr1, fr2⟩ := box3_cells x4w
      obtain ⟨a0, a1, a2, fa0, fa1, fa2⟩ := box3_cells x4b
      obtain ⟨c0, c1, c2, fc0, fc1, fc2⟩ := box3_cells x4c
      refine wp_region_J (fun W' : World => W'.cell? ⟨g4, 1, none⟩ = some (.int .i64 f)) 12 (by kernel_rfl) ?_ (fun hHeld => ?_)
      · (try dsimp only); (first | exact k1 | exact a1)
      refine wpAnyJ_take0 (i := 0) (v := ?_) rfl (by kernel_rfl) (by kernel_rfl) (by kernel_rfl) (fun _ _ _ h => h) (by rfl) (Or.inl ⟨by rfl, ?_⟩) (by assumption) ?_
      rotate_left 1
      · intro w hSw; (try dsimp only at hSw); go_simp <;> (try with_reducible rfl)
      try simp only [Act.put, List.setIfInBounds_toArray, List.set_cons_zero, List.set_cons_succ]
      refine wpAnyJ_take (i := 1) (v := ?_) rfl (by kernel_rfl) (by kernel_rfl) (by kernel_rfl) (fun _ _ _ h => h) (by rfl) rfl (by kernel_rfl) (by kernel_rfl) (Or.inl ⟨by rfl, ?_⟩) (by assumption) ?_
      rotate_left 1
      · intro w hSw; (try dsimp only at hSw); go_simp <;> (try with_reducible rfl)
      try simp only [Act.put, List.setIfInBounds_toArray, List.set_cons_zero, List.set_cons_succ]
      refine wpAnyJ_take0 (i := 2) (v := ?_) rfl (by kernel_rfl) (by kernel_rfl) (by kernel_rfl) (fun _ _ _ h => h) (by rfl) (Or.inl ⟨by rfl, ?_⟩) (by assumption) ?_
      rotate_left 1
      · intro w hSw; (try dsimp only at hSw); go_simp <;> (try with_reducible rfl)
      try simp only [Act.put, List.setIfInBounds_toArray, List.set_cons_zero, List.set_cons_succ]
      refine wpAnyJ_take0 (i := 5) (v := ?_) rfl (by kernel_rfl) (by kernel_rfl) (by kernel_rfl) (fun _ _ _ h => h) (by rfl) (Or.inl ⟨by rfl, ?_⟩) (by assumption) ?_
      rotate_left 1
      · intro w hSw; (try dsimp only at hSw); go_simp <;> (try with_reducible rfl)
      try simp only [Act.put, List.setIfInBounds_toArray, List.set_cons_zero, List.set_cons_succ]
      refine wpAnyJ_take0 (i := 9) (v := ?_) rfl (by kernel_rfl) (by kernel_rfl) (by kernel_rfl) (fun _ _ _ h => h) (by rfl) (Or.inl ⟨by rfl, ?_⟩) (by assumption) ?_
      rotate_left 1
      · intro w hSw; (try dsimp only at hSw); go_simp <;> (try with_reducible rfl)
      try simp only [Act.put, List.setIfInBounds_toArray, List.set_cons_zero, List.set_cons_succ]
      refine wpAnyJ_ready (rs := [3]) (by kernel_rfl) (by simp) ?_
      refine AllReadyJ.cons (o := _) rfl (fun Kq hKq => ?_) ?_
      · go_simp
        go_at_call 6
        with_reducible refine (kw1.out _).mono ?_
        rintro e w5 ⟨rfl, hw5⟩
        obtain rfl := hw5.symm
        go_wp2_with fail
        refine hKq.out _ _ ?_ (fun hHeld => ?_)
        · intro _; (try dsimp only); (first | exact k1 | exact a1)
        clear hKq Kq
        try simp only [Act.put, List.setIfInBounds_toArray, List.set_cons_zero, List.set_cons_succ]
        refine wpAnyJ_ready (rs := [4, 6]) (by kernel_rfl) (by simp) ?_
        refine AllReadyJ.cons (o := _) rfl (fun Kq hKq => ?_) ?_
        · go_simp
          refine hKq.out _ _ ?_ (fun hHeld => ?_)
          · intro _; (try dsimp only); (first | exact k1 | exact a1)
          clear hKq Kq
          try simp only [Act.put, List.setIfInBounds_toArray, List.set_cons_zero, List.set_cons_succ]
          refine wpAnyJ_ready (rs := [6]) (by kernel_rfl) (by simp) ?_
          refine AllReadyJ.cons (o := _) rfl (fun Kq hKq => ?_) ?_
          · go_simp
            go_at_call 6
            with_reducible refine (kw2.out _).mono ?_
            rintro e w5 ⟨rfl, hw5⟩
            obtain rfl := hw5.symm
            go_wp2_with fail
            refine hKq.out _ _ ?_ (fun hHeld => ?_)
            · intro _; (try dsimp only); (first | exact k1 | exact a1)
            clear hKq Kq
            try simp only [Act.put, List.setIfInBounds_toArray, List.set_cons_zero, List.set_cons_succ]
            refine wpAnyJ_take0 (i := 7) (v := ?_) rfl (by kernel_rfl) (by kernel_rfl) (by kernel_rfl) (fun _ _ _ h => h) (by rfl) (Or.inl ⟨by rfl, ?_⟩) (by assumption) ?_
            rotate_left 1
            · intro w hSw; (try dsimp only at hSw); go_simp <;> (try with_reducible rfl)
            try simp only [Act.put, List.setIfInBounds_toArray, List.set_cons_zero, List.set_cons_succ]
            refine wpAnyJ_ready (rs := [8, 10]) (by kernel_rfl) (by simp) ?_
            refine AllReadyJ.cons (o := _) rfl (fun Kq hKq => ?_) ?_
            · go_simp
              refine hKq.out _ _ ?_ (fun hHeld => ?_)
              · intro _; (try dsimp only); (first | exact k1 | exact a1)
              clear hKq Kq
              try simp only [Act.put, List.setIfInBounds_toArray, List.set_cons_zero, List.set_cons_succ]
              refine wpAnyJ_take0 (i := 11) (v := ?_) rfl (by kernel_rfl) (by kernel_rfl) (by kernel_rfl) (fun _ _ _ h => h) (by rfl) (Or.inl ⟨by rfl, ?_⟩) (by assumption) ?_
              rotate_left 1
              · intro w hSw; (try dsimp only at hSw); go_simp <;> (try with_reducible rfl)
              try simp only [Act.put, List.setIfInBounds_toArray, List.set_cons_zero, List.set_cons_succ]
              refine wpAnyJ_ready (rs := [10]) (by kernel_rfl) (by simp) ?_
              refine AllReadyJ.cons (o := _) rfl (fun Kq hKq => ?_) ?_
              · go_simp
                go_at_call 6
                with_reducible refine (kw3.out _).mono ?_
                rintro e w5 ⟨rfl, hw5⟩
                obtain rfl := hw5.symm
                go_wp2_with fail
                refine hKq.out _ _ ?_ (fun hHeld => ?_)
                · intro _; (try dsimp only); (first | exact k1 | exact a1)
                clear hKq Kq
                try simp only [Act.put, List.setIfInBounds_toArray, List.set_cons_zero, List.set_cons_succ]
                refine wpAnyJ_ready (rs := [12]) (by kernel_rfl) (by simp) ?_
                refine AllReadyJ.cons (o := _) rfl (fun Kq hKq => ?_) ?_
                · go_simp
                  refine hKq.out _ _ ?_ (fun hHeld => ?_)
                  · intro hl; exact absurd hl (by decide)
                  clear hKq Kq
                  try simp only [Act.put, List.setIfInBounds_toArray, List.set_cons_zero, List.set_cons_succ]
                  refine wpAnyJ_take0 (i := 13) (v := ?_) rfl (by kernel_rfl) (by kernel_rfl) (by kernel_rfl) (fun _ _ _ h => h) (by rfl) (Or.inl ⟨by rfl, ?_⟩) (by assumption) ?_
                  rotate_left 1
                  · intro w hSw; (try dsimp only at hSw); go_simp <;> (try with_reducible rfl)
                  try simp only [Act.put, List.setIfInBounds_toArray, List.set_cons_zero, List.set_cons_succ]
                  refine wpAnyJ_ready (rs := [14]) (by kernel_rfl) (by simp) ?_
                  refine AllReadyJ.cons (o := _) rfl (fun Kq hKq => ?_) ?_
                  · go_simp
                    refine hKq.out _ _ ?_ (fun hHeld => ?_)
                    · intro hl; exact absurd hl (by decide)
                    clear hKq Kq
                    try simp only [Act.put, List.setIfInBounds_toArray, List.set_cons_zero, List.set_cons_succ]
                    refine wpAnyJ_done (by kernel_rfl) ?_ _
                    go_wp2_with fail
                    go_meet
                    first | exact ⟨_, _, hz, hbz⟩ | exact ⟨_, _, hz, hbz.drew⟩
                  exact AllReadyJ.nil
                exact AllReadyJ.nil
              exact AllReadyJ.nil
            refine AllReadyJ.cons (o := _) rfl (fun Kq hKq => ?_) ?_
            · go_simp
              go_at_call 6
              with_reducible refine (kw3.out _).mono ?_
              rintro e w5 ⟨rfl, hw5⟩
              obtain rfl := hw5.symm
              go_wp2_with fail
              refine hKq.out _ _ ?_ (fun hHeld => ?_)
              · intro _; (try dsimp only); (first | exact k1 | exact a1)
              clear hKq Kq
              try simp only [Act.put, List.setIfInBounds_toArray, List.set_cons_zero, List.set_cons_succ]
              refine wpAnyJ_ready (rs := [8]) (by kernel_rfl) (by simp) ?_
              refine AllReadyJ.cons (o := _) rfl (fun Kq hKq => ?_) ?_
              · go_simp
                refine hKq.out _ _ ?_ (fun hHeld => ?_)
                · intro _; (try dsimp only); (first | exact k1 | exact a1)
                clear hKq Kq
                try simp only [Act.put, List.setIfInBounds_toArray, List.set_cons_zero, List.set_cons_succ]
                refine wpAnyJ_take0 (i := 11) (v := ?_) rfl (by kernel_rfl) (by kernel_rfl) (by kernel_rfl) (fun _ _ _ h => h) (by rfl) (Or.inl ⟨by rfl, ?_⟩) (by assumption) ?_
                rotate_left 1
                · intro w hSw; (try dsimp only at hSw); go_simp <;> (try with_reducible rfl)
                try simp only [Act.put, List.setIfInBounds_toArray, List.set_cons_zero, List.set_cons_succ]
                refine wpAnyJ_ready (rs := [12]) (by kernel_rfl) (by simp) ?_
                refine AllReadyJ.cons (o := _) rfl (fun Kq hKq => ?_) ?_
                · go_simp
                  refine hKq.out _ _ ?_ (fun hHeld => ?_)
                  · intro hl; exact absurd hl (by decide)
                  clear hKq Kq
                  try simp only [Act.put, List.setIfInBounds_toArray, List.set_cons_zero, List.set_cons_succ]
                  refine wpAnyJ_take0 (i := 13) (v := ?_) rfl (by kernel_rfl) (by kernel_rfl) (by kernel_rfl) (fun _ _ _ h => h) (by rfl) (Or.inl ⟨by rfl, ?_⟩) (by assumption) ?_
                  rotate_left 1
                  · intro w hSw; (try dsimp only at hSw); go_simp <;> (try with_reducible rfl)
                  try simp only [Act.put, List.setIfInBounds_toArray, List.set_cons_zero, List.set_cons_succ]
                  refine wpAnyJ_ready (rs := [14]) (by kernel_rfl) (by simp) ?_
                  refine AllReadyJ.cons (o := _) rfl (fun Kq hKq => ?_) ?_
                  · go_simp
                    refine hKq.out _ _ ?_ (fun hHeld => ?_)
                    · intro hl; exact absurd hl (by decide)
                    clear hKq Kq
                    try simp only [Act.put, List.setIfInBounds_toArray, List.set_cons_zero, List.set_cons_succ]
                    refine wpAnyJ_done (by kernel_rfl) ?_ _
                    go_wp2_with fail
                    go_meet
                    first | exact ⟨_, _, hz, hbz⟩ | exact ⟨_, _, hz, hbz.drew⟩
                  exact AllReadyJ.nil
                exact AllReadyJ.nil
              exact AllReadyJ.nil
            exact AllReadyJ.nil
          exact AllReadyJ.nil
        refine AllReadyJ.cons (o := _) rfl (fun Kq hKq => ?_) ?_
        · go_simp
          go_at_call 6
          with_reducible refine (kw2.out _).mono ?_
          rintro e w5 ⟨rfl, hw5⟩
          obtain rfl := hw5.symm
          go_wp2_with fail
          refine hKq.out _ _ ?_ (fun hHeld => ?_)
          · intro _; (try dsimp only); (first | exact k1 | exact a1)
          clear hKq Kq
          try simp only [Act.put, List.setIfInBounds_toArray, List.set_cons_zero, List.set_cons_succ]
          refine wpAnyJ_ready (rs := [4, 10]) (by kernel_rfl) (by simp) ?_
          refine AllReadyJ.cons (o := _) rfl (fun Kq hKq => ?_) ?_
          · go_simp
            refine hKq.out _ _ ?_ (fun hHeld => ?_)
            · intro _; (try dsimp only); (first | exact k1 | exact a1)
            clear hKq Kq
            try simp only [Act.put, List.setIfInBounds_toArray, List.set_cons_zero, List.set_cons_succ]
            refine wpAnyJ_take0 (i := 7) (v := ?_) rfl (by kernel_rfl) (by kernel_rfl) (by kernel_rfl) (fun _ _ _ h => h) (by rfl) (Or.inl ⟨by rfl, ?_⟩) (by assumption) ?_
            rotate_left 1
            · intro w hSw; (try dsimp only at hSw); go_simp <;> (try with_reducible rfl)
            try simp only [Act.put, List.setIfInBounds_toArray, List.set_cons_zero, List.set_cons_succ]
            refine wpAnyJ_ready (rs := [8, 10]) (by kernel_rfl) (by simp) ?_
            refine AllReadyJ.cons (o := _) rfl (fun Kq hKq => ?_) ?_
            · go_simp
              refine hKq.out _ _ ?_ (fun hHeld => ?_)
              · intro _; (try dsimp only); (first | exact k1 | exact a1)
              clear hKq Kq
              try simp only [Act.put, List.setIfInBounds_toArray, List.set_cons_zero, List.set_cons_succ]
              refine wpAnyJ_take0 (i := 11) (v := ?_) rfl (by kernel_rfl) (by kernel_rfl) (by kernel_rfl) (fun _ _ _ h => h) (by rfl) (Or.inl ⟨by rfl, ?_⟩) (by assumption) ?_
              rotate_left 1
              · intro w hSw; (try dsimp only at hSw); go_simp <;> (try with_reducible rfl)
              try simp only [Act.put, List.setIfInBounds_toArray, List.set_cons_zero, List.set_cons_succ]
              refine wpAnyJ_ready (rs := [10]) (by kernel_rfl) (by simp) ?_
              refine AllReadyJ.cons (o := _) rfl (fun Kq hKq => ?_) ?_
              · go_simp
                go_at_call 6
                with_reducible refine (kw3.out _).mono ?_
                rintro e w5 ⟨rfl, hw5⟩
                obtain rfl := hw5.symm
                go_wp2_with fail
                refine hKq.out _ _ ?_ (fun hHeld => ?_)
                · intro _; (try dsimp only); (first | exact k1 | exact a1)
                clear hKq Kq
                try simp only [Act.put, List.setIfInBounds_toArray, List.set_cons_zero, List.set_cons_succ]
                refine wpAnyJ_ready (rs := [12]) (by kernel_rfl) (by simp) ?_
                refine AllReadyJ.cons (o := _) rfl (fun Kq hKq => ?_) ?_
                · go_simp
                  refine hKq.out _ _ ?_ (fun hHeld => ?_)
                  · intro hl; exact absurd hl (by decide)
                  clear hKq Kq
                  try simp only [Act.put, List.setIfInBounds_toArray, List.set_cons_zero, List.set_cons_succ]
                  refine wpAnyJ_take0 (i := 13) (v := ?_) rfl (by kernel_rfl) (by kernel_rfl) (by kernel_rfl) (fun _ _ _ h => h) (by rfl) (Or.inl ⟨by rfl, ?_⟩) (by assumption) ?_
                  rotate_left 1
                  · intro w hSw; (try dsimp only at hSw); go_simp <;> (try with_reducible rfl)
                  try simp only [Act.put, List.setIfInBounds_toArray, List.set_cons_zero, List.set_cons_succ]
                  refine wpAnyJ_ready (rs := [14]) (by kernel_rfl) (by simp) ?_
                  refine AllReadyJ.cons (o := _) rfl (fun Kq hKq => ?_) ?_
                  · go_simp
                    refine hKq.out _ _ ?_ (fun hHeld => ?_)
                    · intro hl; exact absurd hl (by decide)
                    clear hKq Kq
                    try simp only [Act.put, List.setIfInBounds_toArray, List.set_cons_zero, List.set_cons_succ]
                    refine wpAnyJ_done (by kernel_rfl) ?_ _
                    go_wp2_with fail
                    go_meet
                    first | exact ⟨_, _, hz, hbz⟩ | exact ⟨_, _, hz, hbz.drew⟩
                  exact AllReadyJ.nil
                exact AllReadyJ.nil
              exact AllReadyJ.nil
            refine AllReadyJ.cons (o := _) rfl (fun Kq hKq => ?_) ?_
            · go_simp
              go_at_call 6
              with_reducible refine (kw3.out _).mono ?_
              rintro e w5 ⟨rfl, hw5⟩
              obtain rfl := hw5.symm
              go_wp2_with fail
              refine hKq.out _ _ ?_ (fun hHeld => ?_)
              · intro _; (try dsimp only); (first | exact k1 | exact a1)
              clear hKq Kq
              try simp only [Act.put, List.setIfInBounds_toArray, List.set_cons_zero, List.set_cons_succ]
              refine wpAnyJ_ready (rs := [8]) (by kernel_rfl) (by simp) ?_
              refine AllReadyJ.cons (o := _) rfl (fun Kq hKq => ?_) ?_
              · go_simp
                refine hKq.out _ _ ?_ (fun hHeld => ?_)
                · intro _; (try dsimp only); (first | exact k1 | exact a1)
                clear hKq Kq
                try simp only [Act.put, List.setIfInBounds_toArray, List.set_cons_zero, List.set_cons_succ]
                refine wpAnyJ_take0 (i := 11) (v := ?_) rfl (by kernel_rfl) (by kernel_rfl) (by kernel_rfl) (fun _ _ _ h => h) (by rfl) (Or.inl ⟨by rfl, ?_⟩) (by assumption) ?_
                rotate_left 1
                · intro w hSw; (try dsimp only at hSw); go_simp <;> (try with_reducible rfl)
                try simp only [Act.put, List.setIfInBounds_toArray, List.set_cons_zero, List.set_cons_succ]
                refine wpAnyJ_ready (rs := [12]) (by kernel_rfl) (by simp) ?_
                refine AllReadyJ.cons (o := _) rfl (fun Kq hKq => ?_) ?_
                · go_simp
                  refine hKq.out _ _ ?_ (fun hHeld => ?_)
                  · intro hl; exact absurd hl (by decide)
                  clear hKq Kq
                  try simp only [Act.put, List.setIfInBounds_toArray, List.set_cons_zero, List.set_cons_succ]
                  refine wpAnyJ_take0 (i := 13) (v := ?_) rfl (by kernel_rfl) (by kernel_rfl) (by kernel_rfl) (fun _ _ _ h => h) (by rfl) (Or.inl ⟨by rfl, ?_⟩) (by assumption) ?_
                  rotate_left 1
                  · intro w hSw; (try dsimp only at hSw); go_simp <;> (try with_reducible rfl)
                  try simp only [Act.put, List.setIfInBounds_toArray, List.set_cons_zero, List.set_cons_succ]
                  refine wpAnyJ_ready (rs := [14]) (by kernel_rfl) (by simp) ?_
                  refine AllReadyJ.cons (o := _) rfl (fun Kq hKq => ?_) ?_
                  · go_simp
                    refine hKq.out _ _ ?_ (fun hHeld => ?_)
                    · intro hl; exact absurd hl (by decide)
                    clear hKq Kq
                    try simp only [Act.put, List.setIfInBounds_toArray, List.set_cons_zero, List.set_cons_succ]
                    refine wpAnyJ_done (by kernel_rfl) ?_ _
                    go_wp2_with fail
                    go_meet
                    first | exact ⟨_, _, hz, hbz⟩ | exact ⟨_, _, hz, hbz.drew⟩
                  exact AllReadyJ.nil
                exact AllReadyJ.nil
              exact AllReadyJ.nil
            exact AllReadyJ.nil
          refine AllReadyJ.cons (o := _) rfl (fun Kq hKq => ?_) ?_
          · go_simp
            go_at_call 6
            with_reducible refine (kw3.out _).mono ?_
            rintro e w5 ⟨rfl, hw5⟩
            obtain rfl := hw5.symm
            go_wp2_with fail
            refine hKq.out _ _ ?_ (fun hHeld => ?_)
            · intro _; (try dsimp only); (first | exact k1 | exact a1)
            clear hKq Kq
            try simp only [Act.put, List.setIfInBounds_toArray, List.set_cons_zero, List.set_cons_succ]
            refine wpAnyJ_ready (rs := [4]) (by kernel_rfl) (by simp) ?_
            refine AllReadyJ.cons (o := _) rfl (fun Kq hKq => ?_) ?_
            · go_simp
              refine hKq.out _ _ ?_ (fun hHeld => ?_)
              · intro _; (try dsimp only); (first | exact k1 | exact a1)
              clear hKq Kq
              try simp only [Act.put, List.setIfInBounds_toArray, List.set_cons_zero, List.set_cons_succ]
              refine wpAnyJ_take0 (i := 7) (v := ?_) rfl (by kernel_rfl) (by kernel_rfl) (by kernel_rfl) (fun _ _ _ h => h) (by rfl) (Or.inl ⟨by rfl, ?_⟩) (by assumption) ?_
              rotate_left 1
              · intro w hSw; (try dsimp only at hSw); go_simp <;> (try with_reducible rfl)
              try simp only [Act.put, List.setIfInBounds_toArray, List.set_cons_zero, List.set_cons_succ]
              refine wpAnyJ_ready (rs := [8]) (by kernel_rfl) (by simp) ?_
              refine AllReadyJ.cons (o := _) rfl (fun Kq hKq => ?_) ?_
              · go_simp
                refine hKq.out _ _ ?_ (fun hHeld => ?_)
                · intro _; (try dsimp only); (first | exact k1 | exact a1)
                clear hKq Kq
                try simp only [Act.put, List.setIfInBounds_toArray, List.set_cons_zero, List.set_cons_succ]
                refine wpAnyJ_take0 (i := 11) (v := ?_) rfl (by kernel_rfl) (by kernel_rfl) (by kernel_rfl) (fun _ _ _ h => h) (by rfl) (Or.inl ⟨by rfl, ?_⟩) (by assumption) ?_
                rotate_left 1
                · intro w hSw; (try dsimp only at hSw); go_simp <;> (try with_reducible rfl)
                try simp only [Act.put, List.setIfInBounds_toArray, List.set_cons_zero, List.set_cons_succ]
                refine wpAnyJ_ready (rs := [12]) (by kernel_rfl) (by simp) ?_
                refine AllReadyJ.cons (o := _) rfl (fun Kq hKq => ?_) ?_
                · go_simp
                  refine hKq.out _ _ ?_ (fun hHeld => ?_)
                  · intro hl; exact absurd hl (by decide)
                  clear hKq Kq
                  try simp only [Act.put, List.setIfInBounds_toArray, List.set_cons_zero, List.set_cons_succ]
                  refine wpAnyJ_take0 (i := 13) (v := ?_) rfl (by kernel_rfl) (by kernel_rfl) (by kernel_rfl) (fun _ _ _ h => h) (by rfl) (Or.inl ⟨by rfl, ?_⟩) (by assumption) ?_
                  rotate_left 1
                  · intro w hSw; (try dsimp only at hSw); go_simp <;> (try with_reducible rfl)
                  try simp only [Act.put, List.setIfInBounds_toArray, List.set_cons_zero, List.set_cons_succ]
                  refine wpAnyJ_ready (rs := [14]) (by kernel_rfl) (by simp) ?_
                  refine AllReadyJ.cons (o := _) rfl (fun Kq hKq => ?_) ?_
                  · go_simp
                    refine hKq.out _ _ ?_ (fun hHeld => ?_)
                    · intro hl; exact absurd hl (by decide)
                    clear hKq Kq
                    try simp only [Act.put, List.setIfInBounds_toArray, List.set_cons_zero, List.set_cons_succ]
                    refine wpAnyJ_done (by kernel_rfl) ?_ _
                    go_wp2_with fail
                    go_meet
                    first | exact ⟨_, _, hz, hbz⟩ | exact ⟨_, _, hz, hbz.drew⟩
                  exact AllReadyJ.nil
                exact AllReadyJ.nil
              exact AllReadyJ.nil
            exact AllReadyJ.nil
          exact AllReadyJ.nil
        exact AllReadyJ.nil
      exact AllReadyJ.nil
    · have r38 : (w1.alloc (.cells #[.int .i64 f, .int .i64 a9] 3)).cell? ⟨w1.heap.size, 1, none⟩ = some (.int .i64 a9) := (Box.new w1 3 [.int .i64 f, .int .i64 a9]).cell 1
      have x4b := x4w.below (balloc w1 (.cells #[.int .i64 f, .int .i64 a9] 3))
      have x4c := x4b.set 1 (.int .i64 a9)
      simp only [List.set_cons_zero, List.set_cons_succ] at x4c
      have hz := x4c.set 2 (.int .i64 b3)
      simp only [List.set_cons_zero, List.set_cons_succ] at hz
      have hbz := Below.setCell (Below.setCell (bgo hal1.out (balloc w1 (.cells #[.int .i64 f, .int .i64 a9] 3))) (p := ⟨g4, 1, none⟩) hg4.out (.int .i64 a9)) (p := ⟨g4, 2, none⟩) hg4.out (.int .i64 b3)
      obtain ⟨k0, k1, k2, fr0, fr1, fr2⟩ := box3_cells x4w
      obtain ⟨a0, a1, a2, fa0, fa1, fa2⟩ := box3_cells x4b
      obtain ⟨c0, c1, c2, fc0, fc1, fc2⟩ := box3_cells x4c
      refine wp_region_J (fun W' : World => W'.cell? ⟨g4, 1, none⟩ = some (.int .i64 f)) 12 (by kernel_rfl) ?_ (fun hHeld => ?_)
      · (try dsimp only); (first | exact k1 | exact a1)
      refine wpAnyJ_take0 (i := 0) (v := ?_) rfl (by kernel_rfl) (by kernel_rfl) (by kernel_rfl) (fun _ _ _ h => h) (by rfl) (Or.inl ⟨by rfl, ?_⟩) (by assumption) ?_
      rotate_left 1
      · intro w hSw; (try dsimp only at hSw); go_simp <;> (try with_reducible rfl)
      try simp only [Act.put, List.setIfInBounds_toArray, List.set_cons_zero, List.set_cons_succ]
      refine wpAnyJ_take (i := 1) (v := ?_) rfl (by kernel_rfl) (by kernel_rfl) (by kernel_rfl) (fun _ _ _ h => h) (by rfl) rfl (by kernel_rfl) (by kernel_rfl) (Or.inl ⟨by rfl, ?_⟩) (by assumption) ?_
      rotate_left 1
      · intro w hSw; (try dsimp only at hSw); go_simp <;> (try with_reducible rfl)
      try simp only [Act.put, List.setIfInBounds_toArray, List.set_cons_zero, List.set_cons_succ]
      refine wpAnyJ_take0 (i := 2) (v := ?_) rfl (by kernel_rfl) (by kernel_rfl) (by kernel_rfl) (fun _ _ _ h => h) (by rfl) (Or.inl ⟨by rfl, ?_⟩) (by assumption) ?_
      rotate_left 1
      · intro w hSw; (try dsimp only at hSw); go_simp <;> (try with_reducible rfl)
      try simp only [Act.put, List.setIfInBounds_toArray, List.set_cons_zero, List.set_cons_succ]
      refine wpAnyJ_take0 (i := 5) (v := ?_) rfl (by kernel_rfl) (by kernel_rfl) (by kernel_rfl) (fun _ _ _ h => h) (by rfl) (Or.inl ⟨by rfl, ?_⟩) (by assumption) ?_
      rotate_left 1
      · intro w hSw; (try dsimp only at hSw); go_simp <;> (try with_reducible rfl)
      try simp only [Act.put, List.setIfInBounds_toArray, List.set_cons_zero, List.set_cons_succ]
      refine wpAnyJ_take0 (i := 9) (v := ?_) rfl (by kernel_rfl) (by kernel_rfl) (by kernel_rfl) (fun _ _ _ h => h) (by rfl) (Or.inl ⟨by rfl, ?_⟩) (by assumption) ?_
      rotate_left 1
      · intro w hSw; (try dsimp only at hSw); go_simp <;> (try with_reducible rfl)
      try simp only [Act.put, List.setIfInBounds_toArray, List.set_cons_zero, List.set_cons_succ]
      refine wpAnyJ_ready (rs := [3]) (by kernel_rfl) (by simp) ?_
      refine AllReadyJ.cons (o := _) rfl (fun Kq hKq => ?_) ?_
      · go_simp
        go_at_call 6
        with_reducible refine (kw1.out _).mono ?_
        rintro e w5 ⟨rfl, hw5⟩
        obtain rfl := hw5.symm
        go_wp2_with fail
        refine hKq.out _ _ ?_ (fun hHeld => ?_)
        · intro _; (try dsimp only); (first | exact k1 | exact a1)
        clear hKq Kq
        try simp only [Act.put, List.setIfInBounds_toArray, List.set_cons_zero, List.set_cons_succ]
        refine wpAnyJ_ready (rs := [4, 6]) (by kernel_rfl) (by simp) ?_
        refine AllReadyJ.cons (o := _) rfl (fun Kq hKq => ?_) ?_
        · go_simp
          refine hKq.out _ _ ?_ (fun hHeld => ?_)
          · intro _; (try dsimp only); (first | exact k1 | exact a1)
          clear hKq Kq
          try simp only [Act.put, List.setIfInBounds_toArray, List.set_cons_zero, List.set_cons_succ]
          refine wpAnyJ_ready (rs := [6]) (by kernel_rfl) (by simp) ?_
          refine AllReadyJ.cons (o := _) rfl (fun Kq hKq => ?_) ?_
          · go_simp
            go_at_call 6
            with_reducible refine (kw2.out _).mono ?_
            rintro e w5 ⟨rfl, hw5⟩
            obtain rfl := hw5.symm
            go_wp2_with fail
            refine hKq.out _ _ ?_ (fun hHeld => ?_)
            · intro _; (try dsimp only); (first | exact k1 | exact a1)
            clear hKq Kq
            try simp only [Act.put, List.setIfInBounds_toArray, List.set_cons_zero, List.set_cons_succ]
            refine wpAnyJ_take0 (i := 7) (v := ?_) rfl (by kernel_rfl) (by kernel_rfl) (by kernel_rfl) (fun _ _ _ h => h) (by rfl) (Or.inl ⟨by rfl, ?_⟩) (by assumption) ?_
            rotate_left 1
            · intro w hSw; (try dsimp only at hSw); go_simp <;> (try with_reducible rfl)
            try simp only [Act.put, List.setIfInBounds_toArray, List.set_cons_zero, List.set_cons_succ]
            refine wpAnyJ_ready (rs := [8, 10]) (by kernel_rfl) (by simp) ?_
            refine AllReadyJ.cons (o := _) rfl (fun Kq hKq => ?_) ?_
            · go_simp
              refine hKq.out _ _ ?_ (fun hHeld => ?_)
              · intro _; (try dsimp only); (first | exact k1 | exact a1)
              clear hKq Kq
              try simp only [Act.put, List.setIfInBounds_toArray, List.set_cons_zero, List.set_cons_succ]
              refine wpAnyJ_take0 (i := 11) (v := ?_) rfl (by kernel_rfl) (by kernel_rfl) (by kernel_rfl) (fun _ _ _ h => h) (by rfl) (Or.inl ⟨by rfl, ?_⟩) (by assumption) ?_
              rotate_left 1
              · intro w hSw; (try dsimp only at hSw); go_simp <;> (try with_reducible rfl)
              try simp only [Act.put, List.setIfInBounds_toArray, List.set_cons_zero, List.set_cons_succ]
              refine wpAnyJ_ready (rs := [10]) (by kernel_rfl) (by simp) ?_
              refine AllReadyJ.cons (o := _) rfl (fun Kq hKq => ?_) ?_
              · go_simp
                go_at_call 6
                with_reducible refine (kw3.out _).mono ?_
                rintro e w5 ⟨rfl, hw5⟩
                obtain rfl := hw5.symm
                go_wp2_with fail
                refine hKq.out _ _ ?_ (fun hHeld => ?_)
                · intro _; (try dsimp only); (first | exact k1 | exact a1)
                clear hKq Kq
                try simp only [Act.put, List.setIfInBounds_toArray, List.set_cons_zero, List.set_cons_succ]
                refine wpAnyJ_ready (rs := [12]) (by kernel_rfl) (by simp) ?_
                refine AllReadyJ.cons (o := _) rfl (fun Kq hKq => ?_) ?_
                · go_simp
                  refine hKq.out _ _ ?_ (fun hHeld => ?_)
                  · intro hl; exact absurd hl (by decide)
                  clear hKq Kq
                  try simp only [Act.put, List.setIfInBounds_toArray, List.set_cons_zero, List.set_cons_succ]
                  refine wpAnyJ_take0 (i := 13) (v := ?_) rfl (by kernel_rfl) (by kernel_rfl) (by kernel_rfl) (fun _ _ _ h => h) (by rfl) (Or.inl ⟨by rfl, ?_⟩) (by assumption) ?_
                  rotate_left 1
                  · intro w hSw; (try dsimp only at hSw); go_simp <;> (try with_reducible rfl)
                  try simp only [Act.put, List.setIfInBounds_toArray, List.set_cons_zero, List.set_cons_succ]
                  refine wpAnyJ_ready (rs := [14]) (by kernel_rfl) (by simp) ?_
                  refine AllReadyJ.cons (o := _) rfl (fun Kq hKq => ?_) ?_
                  · go_simp
                    refine hKq.out _ _ ?_ (fun hHeld => ?_)
                    · intro hl; exact absurd hl (by decide)
                    clear hKq Kq
                    try simp only [Act.put, List.setIfInBounds_toArray, List.set_cons_zero, List.set_cons_succ]
                    refine wpAnyJ_done (by kernel_rfl) ?_ _
                    go_wp2_with fail
                    go_meet
                    first | exact ⟨_, _, hz, hbz⟩ | exact ⟨_, _, hz, hbz.drew⟩
                  exact AllReadyJ.nil
                exact AllReadyJ.nil
              exact AllReadyJ.nil
            refine AllReadyJ.cons (o := _) rfl (fun Kq hKq => ?_) ?_
            · go_simp
              go_at_call 6
              with_reducible refine (kw3.out _).mono ?_
              rintro e w5 ⟨rfl, hw5⟩
              obtain rfl := hw5.symm
              go_wp2_with fail
              refine hKq.out _ _ ?_ (fun hHeld => ?_)
              · intro _; (try dsimp only); (first | exact k1 | exact a1)
              clear hKq Kq
              try simp only [Act.put, List.setIfInBounds_toArray, List.set_cons_zero, List.set_cons_succ]
              refine wpAnyJ_ready (rs := [8]) (by kernel_rfl) (by simp) ?_
              refine AllReadyJ.cons (o := _) rfl (fun Kq hKq => ?_) ?_
              · go_simp
                refine hKq.out _ _ ?_ (fun hHeld => ?_)
                · intro _; (try dsimp only); (first | exact k1 | exact a1)
                clear hKq Kq
                try simp only [Act.put, List.setIfInBounds_toArray, List.set_cons_zero, List.set_cons_succ]
                refine wpAnyJ_take0 (i := 11) (v := ?_) rfl (by kernel_rfl) (by kernel_rfl) (by kernel_rfl) (fun _ _ _ h => h) (by rfl) (Or.inl ⟨by rfl, ?_⟩) (by assumption) ?_
                rotate_left 1
                · intro w hSw; (try dsimp only at hSw); go_simp <;> (try with_reducible rfl)
                try simp only [Act.put, List.setIfInBounds_toArray, List.set_cons_zero, List.set_cons_succ]
                refine wpAnyJ_ready (rs := [12]) (by kernel_rfl) (by simp) ?_
                refine AllReadyJ.cons (o := _) rfl (fun Kq hKq => ?_) ?_
                · go_simp
                  refine hKq.out _ _ ?_ (fun hHeld => ?_)
                  · intro hl; exact absurd hl (by decide)
                  clear hKq Kq
                  try simp only [Act.put, List.setIfInBounds_toArray, List.set_cons_zero, List.set_cons_succ]
                  refine wpAnyJ_take0 (i := 13) (v := ?_) rfl (by kernel_rfl) (by kernel_rfl) (by kernel_rfl) (fun _ _ _ h => h) (by rfl) (Or.inl ⟨by rfl, ?_⟩) (by assumption) ?_
                  rotate_left 1
                  · intro w hSw; (try dsimp only at hSw); go_simp <;> (try with_reducible rfl)
                  try simp only [Act.put, List.setIfInBounds_toArray, List.set_cons_zero, List.set_cons_succ]
                  refine wpAnyJ_ready (rs := [14]) (by kernel_rfl) (by simp) ?_
                  refine AllReadyJ.cons (o := _) rfl (fun Kq hKq => ?_) ?_
                  · go_simp
                    refine hKq.out _ _ ?_ (fun hHeld => ?_)
                    · intro hl; exact absurd hl (by decide)
                    clear hKq Kq
                    try simp only [Act.put, List.setIfInBounds_toArray, List.set_cons_zero, List.set_cons_succ]
                    refine wpAnyJ_done (by kernel_rfl) ?_ _
                    go_wp2_with fail
                    go_meet
                    first | exact ⟨_, _, hz, hbz⟩ | exact ⟨_, _, hz, hbz.drew⟩
                  exact AllReadyJ.nil
                exact AllReadyJ.nil
              exact AllReadyJ.nil
            exact AllReadyJ.nil
          exact AllReadyJ.nil
        refine AllReadyJ.cons (o := _) rfl (fun Kq hKq => ?_) ?_
        · go_simp
          go_at_call 6
          with_reducible refine (kw2.out _).mono ?_
          rintro e w5 ⟨rfl, hw5⟩
          obtain rfl := hw5.symm
          go_wp2_with fail
          refine hKq.out _ _ ?_ (fun hHeld => ?_)
          · intro _; (try dsimp only); (first | exact k1 | exact a1)
          clear hKq Kq
          try simp only [Act.put, List.setIfInBounds_toArray, List.set_cons_zero, List.set_cons_succ]
          refine wpAnyJ_ready (rs := [4, 10]) (by kernel_rfl) (by simp) ?_
          refine AllReadyJ.cons (o := _) rfl (fun Kq hKq => ?_) ?_
          · go_simp
            refine hKq.out _ _ ?_ (fun hHeld => ?_)
            · intro _; (try dsimp only); (first | exact k1 | exact a1)
            clear hKq Kq
            try simp only [Act.put, List.setIfInBounds_toArray, List.set_cons_zero, List.set_cons_succ]
            refine wpAnyJ_take0 (i := 7) (v := ?_) rfl (by kernel_rfl) (by kernel_rfl) (by kernel_rfl) (fun _ _ _ h => h) (by rfl) (Or.inl ⟨by rfl, ?_⟩) (by assumption) ?_
            rotate_left 1
            · intro w hSw; (try dsimp only at hSw); go_simp <;> (try with_reducible rfl)
            try simp only [Act.put, List.setIfInBounds_toArray, List.set_cons_zero, List.set_cons_succ]
            refine wpAnyJ_ready (rs := [8, 10]) (by kernel_rfl) (by simp) ?_
            refine AllReadyJ.cons (o := _) rfl (fun Kq hKq => ?_) ?_
            · go_simp
              refine hKq.out _ _ ?_ (fun hHeld => ?_)
              · intro _; (try dsimp only); (first | exact k1 | exact a1)
              clear hKq Kq
              try simp only [Act.put, List.setIfInBounds_toArray, List.set_cons_zero, List.set_cons_succ]
              refine wpAnyJ_take0 (i := 11) (v := ?_) rfl (by kernel_rfl) (by kernel_rfl) (by kernel_rfl) (fun _ _ _ h => h) (by rfl) (Or.inl ⟨by rfl, ?_⟩) (by assumption) ?_
              rotate_left 1
              · intro w hSw; (try dsimp only at hSw); go_simp <;> (try with_reducible rfl)
              try simp only [Act.put, List.setIfInBounds_toArray, List.set_cons_zero, List.set_cons_succ]
              refine wpAnyJ_ready (rs := [10]) (by kernel_rfl) (by simp) ?_
              refine AllReadyJ.cons (o := _) rfl (fun Kq hKq => ?_) ?_
              · go_simp
                go_at_call 6
                with_reducible refine (kw3.out _).mono ?_
                rintro e w5 ⟨rfl, hw5⟩
                obtain rfl := hw5.symm
                go_wp2_with fail
                refine hKq.out _ _ ?_ (fun hHeld => ?_)
                · intro _; (try dsimp only); (first | exact k1 | exact a1)
                clear hKq Kq
                try simp only [Act.put, List.setIfInBounds_toArray, List.set_cons_zero, List.set_cons_succ]
                refine wpAnyJ_ready (rs := [12]) (by kernel_rfl) (by simp) ?_
                refine AllReadyJ.cons (o := _) rfl (fun Kq hKq => ?_) ?_
                · go_simp
                  refine hKq.out _ _ ?_ (fun hHeld => ?_)
                  · intro hl; exact absurd hl (by decide)
                  clear hKq Kq
                  try simp only [Act.put, List.setIfInBounds_toArray, List.set_cons_zero, List.set_cons_succ]
                  refine wpAnyJ_take0 (i := 13) (v := ?_) rfl (by kernel_rfl) (by kernel_rfl) (by kernel_rfl) (fun _ _ _ h => h) (by rfl) (Or.inl ⟨by rfl, ?_⟩) (by assumption) ?_
                  rotate_left 1
                  · intro w hSw; (try dsimp only at hSw); go_simp <;> (try with_reducible rfl)
                  try simp only [Act.put, List.setIfInBounds_toArray, List.set_cons_zero, List.set_cons_succ]
                  refine wpAnyJ_ready (rs := [14]) (by kernel_rfl) (by simp) ?_
                  refine AllReadyJ.cons (o := _) rfl (fun Kq hKq => ?_) ?_
                  · go_simp
                    refine hKq.out _ _ ?_ (fun hHeld => ?_)
                    · intro hl; exact absurd hl (by decide)
                    clear hKq Kq
                    try simp only [Act.put, List.setIfInBounds_toArray, List.set_cons_zero, List.set_cons_succ]
                    refine wpAnyJ_done (by kernel_rfl) ?_ _
                    go_wp2_with fail
                    go_meet
                    first | exact ⟨_, _, hz, hbz⟩ | exact ⟨_, _, hz, hbz.drew⟩
                  exact AllReadyJ.nil
                exact AllReadyJ.nil
              exact AllReadyJ.nil
            refine AllReadyJ.cons (o := _) rfl (fun Kq hKq => ?_) ?_
            · go_simp
              go_at_call 6
              with_reducible refine (kw3.out _).mono ?_
              rintro e w5 ⟨rfl, hw5⟩
              obtain rfl := hw5.symm
              go_wp2_with fail
              refine hKq.out _ _ ?_ (fun hHeld => ?_)
              · intro _; (try dsimp only); (first | exact k1 | exact a1)
              clear hKq Kq
              try simp only [Act.put, List.setIfInBounds_toArray, List.set_cons_zero, List.set_cons_succ]
              refine wpAnyJ_ready (rs := [8]) (by kernel_rfl) (by simp) ?_
              refine AllReadyJ.cons (o := _) rfl (fun Kq hKq => ?_) ?_
              · go_simp
                refine hKq.out _ _ ?_ (fun hHeld => ?_)
                · intro _; (try dsimp only); (first | exact k1 | exact a1)
                clear hKq Kq
                try simp only [Act.put, List.setIfInBounds_toArray, List.set_cons_zero, List.set_cons_succ]
                refine wpAnyJ_take0 (i := 11) (v := ?_) rfl (by kernel_rfl) (by kernel_rfl) (by kernel_rfl) (fun _ _ _ h => h) (by rfl) (Or.inl ⟨by rfl, ?_⟩) (by assumption) ?_
                rotate_left 1
                · intro w hSw; (try dsimp only at hSw); go_simp <;> (try with_reducible rfl)
                try simp only [Act.put, List.setIfInBounds_toArray, List.set_cons_zero, List.set_cons_succ]
                refine wpAnyJ_ready (rs := [12]) (by kernel_rfl) (by simp) ?_
                refine AllReadyJ.cons (o := _) rfl (fun Kq hKq => ?_) ?_
                · go_simp
                  refine hKq.out _ _ ?_ (fun hHeld => ?_)
                  · intro hl; exact absurd hl (by decide)
                  clear hKq Kq
                  try simp only [Act.put, List.setIfInBounds_toArray, List.set_cons_zero, List.set_cons_succ]
                  refine wpAnyJ_take0 (i := 13) (v := ?_) rfl (by kernel_rfl) (by kernel_rfl) (by kernel_rfl) (fun _ _ _ h => h) (by rfl) (Or.inl ⟨by rfl, ?_⟩) (by assumption) ?_
                  rotate_left 1
                  · intro w hSw; (try dsimp only at hSw); go_simp <;> (try with_reducible rfl)
                  try simp only [Act.put, List.setIfInBounds_toArray, List.set_cons_zero, List.set_cons_succ]
                  refine wpAnyJ_ready (rs := [14]) (by kernel_rfl) (by simp) ?_
                  refine AllReadyJ.cons (o := _) rfl (fun Kq hKq => ?_) ?_
                  · go_simp
                    refine hKq.out _ _ ?_ (fun hHeld => ?_)
                    · intro hl; exact absurd hl (by decide)
                    clear hKq Kq
                    try simp only [Act.put, List.setIfInBounds_toArray, List.set_cons_zero, List.set_cons_succ]
                    refine wpAnyJ_done (by kernel_rfl) ?_ _
                    go_wp2_with fail
                    go_meet
                    first | exact ⟨_, _, hz, hbz⟩ | exact ⟨_, _, hz, hbz.drew⟩
                  exact AllReadyJ.nil
                exact AllReadyJ.nil
              exact AllReadyJ.nil
            exact AllReadyJ.nil
          refine AllReadyJ.cons (o := _) rfl (fun Kq hKq => ?_) ?_
          · go_simp
            go_at_call 6
            with_reducible refine (kw3.out _).mono ?_
            rintro e w5 ⟨rfl, hw5⟩
            obtain rfl := hw5.symm
            go_wp2_with fail
            refine hKq.out _ _ ?_ (fun hHeld => ?_)
            · intro _; (try dsimp only); (first | exact k1 | exact a1)
            clear hKq Kq
            try simp only [Act.put, List.setIfInBounds_toArray, List.set_cons_zero, List.set_cons_succ]
            refine wpAnyJ_ready (rs := [4]) (by kernel_rfl) (by simp) ?_
            refine AllReadyJ.cons (o := _) rfl (fun Kq hKq => ?_) ?_
            · go_simp
              refine hKq.out _ _ ?_ (fun hHeld => ?_)
              · intro _; (try dsimp only); (first | exact k1 | exact a1)
              clear hKq Kq
              try simp only [Act.put, List.setIfInBounds_toArray, List.set_cons_zero, List.set_cons_succ]
              refine wpAnyJ_take0 (i := 7) (v := ?_) rfl (by kernel_rfl) (by kernel_rfl) (by kernel_rfl) (fun _ _ _ h => h) (by rfl) (Or.inl ⟨by rfl, ?_⟩) (by assumption) ?_
              rotate_left 1
              · intro w hSw; (try dsimp only at hSw); go_simp <;> (try with_reducible rfl)
              try simp only [Act.put, List.setIfInBounds_toArray, List.set_cons_zero, List.set_cons_succ]
              refine wpAnyJ_ready (rs := [8]) (by kernel_rfl) (by simp) ?_
              refine AllReadyJ.cons (o := _) rfl (fun Kq hKq => ?_) ?_
              · go_simp
                refine hKq.out _ _ ?_ (fun hHeld => ?_)
                · intro _; (try dsimp only); (first | exact k1 | exact a1)
                clear hKq Kq
                try simp only [Act.put, List.setIfInBounds_toArray, List.set_cons_zero, List.set_cons_succ]
                refine wpAnyJ_take0 (i := 11) (v := ?_) rfl (by kernel_rfl) (by kernel_rfl) (by kernel_rfl) (fun _ _ _ h => h) (by rfl) (Or.inl ⟨by rfl, ?_⟩) (by assumption) ?_
                rotate_left 1
                · intro w hSw; (try dsimp only at hSw); go_simp <;> (try with_reducible rfl)
                try simp only [Act.put, List.setIfInBounds_toArray, List.set_cons_zero, List.set_cons_succ]
                refine wpAnyJ_ready (rs := [12]) (by kernel_rfl) (by simp) ?_
                refine AllReadyJ.cons (o := _) rfl (fun Kq hKq => ?_) ?_
                · go_simp
                  refine hKq.out _ _ ?_ (fun hHeld => ?_)
                  · intro hl; exact absurd hl (by decide)
                  clear hKq Kq
                  try simp only [Act.put, List.setIfInBounds_toArray, List.set_cons_zero, List.set_cons_succ]
                  refine wpAnyJ_take0 (i := 13) (v := ?_) rfl (by kernel_rfl) (by kernel_rfl) (by kernel_rfl) (fun _ _ _ h => h) (by rfl) (Or.inl ⟨by rfl, ?_⟩) (by assumption) ?_
                  rotate_left 1
                  · intro w hSw; (try dsimp only at hSw); go_simp <;> (try with_reducible rfl)
                  try simp only [Act.put, List.setIfInBounds_toArray, List.set_cons_zero, List.set_cons_succ]
                  refine wpAnyJ_ready (rs := [14]) (by kernel_rfl) (by simp) ?_
                  refine AllReadyJ.cons (o := _) rfl (fun Kq hKq => ?_) ?_
                  · go_simp
                    refine hKq.out _ _ ?_ (fun hHeld => ?_)
                    · intro hl; exact absurd hl (by decide)
                    clear hKq Kq
                    try simp only [Act.put, List.setIfInBounds_toArray, List.set_cons_zero, List.set_cons_succ]
                    refine wpAnyJ_done (by kernel_rfl) ?_ _
                    go_wp2_with fail
                    go_meet
                    first | exact ⟨_, _, hz, hbz⟩ | exact ⟨_, _, hz, hbz.drew⟩
                  exact AllReadyJ.nil
                exact AllReadyJ.nil
              exact AllReadyJ.nil
            exact AllReadyJ.nil
          exact AllReadyJ.nil
        exact AllReadyJ.nil
      exact AllReadyJ.nil
  case rest =>
  obtain ⟨f', s', x5, hbw⟩ := hcut
  obtain ⟨W5, rfl⟩ : ∃ W5 : World, W5 = wc := ⟨_, rfl⟩
  have hu5 := Lib.hid ((huw.out.below hbw).more hbw.size)
  have hr5 := Lib.hid (seesB_of hrw.out (Nat.le_refl _) hbw)
  have hen := Lib.hid (fun W (h : SeesR W W.heap.size (.slice A ls.length c) 3 ls.length (linkS ls)) => bencode_any (.slice A ls.length c) ls f' s' W h htot.out)
  have hren := Lib.hid (fun W (h : SeesR W W.heap.size (.slice A ls.length c) 3 ls.length (linkS ls)) => rbencode_any (.slice A ls.length c) ls f' s' W h htot.out)
  have hdec := Lib.hid (fun hc => decOut_enc (ls := ls) (f := f') (s := s') hc htot.out)
  have hYl := Lib.hid (fencB_len (ls := ls) (f := f') (s := s') htot.out)
  unfold FEncP at hen hren
  generalize fencC ls f' s' = C at *
  generalize fencB ls f' s' = Y at *
  have hn1 : Hid (ls.length ≤ 1048576) := by show _ ≤ _; have := (lightP_spec hl.out).1; omega
  replace hbw := Lib.hid hbw
  obtain ⟨k0, k1, k2, -, -, -⟩ := box3_cells x5
  clear hu1 hr1 hal1 x4w kw1 kw2 kw3 hg4
  go_wp2_with fail
  refine (hen.out _ hu5.out).mono ?_
  rintro e w6 ⟨vA, rfl, oA, hb6⟩
  obtain ⟨A6, c6, rfl, hc6, hc6m⟩ := oA.sees.mk_
  have x6 := x5.below hb6
  have hu6 := Lib.hid ((hu5.out.below hb6).more hb6.size)
  have hr6 := Lib.hid (seesB_of hr5.out (Nat.le_refl _) hb6)
  have hb56 := Lib.hid (bgo hbw.out hb6)
  have oA6 := Lib.hid oA.sees
  clear k0 k1 k2 x5 hu5 hr5 hbw hb6 hen oA
  obtain ⟨k0, k1, k2, -, -, -⟩ := box3_cells x6
  dsimp only
  go_wp2_with fail
  refine (hren.out _ hu6.out).mono ?_
  rintro e w7 ⟨vB, rfl, oB, hb7⟩
  obtain ⟨A7, c7, rfl, -, -⟩ := oB.sees.mk_
  have x7 := x6.below hb7
  have hu7 := Lib.hid ((hu6.out.below hb7).more hb7.size)
  have hr7 := Lib.hid (seesB_of hr6.out (Nat.le_refl _) hb7)
  have hb57 := Lib.hid (bgo hb56.out hb7)
  have sA := Lib.hid (seesB_of oA6.out (Nat.le_refl _) hb7)
  have hsm := Lib.hid (rsame_eq w7.heap.size w7.heap.size _ _ Y w7 sA.out oB.sees)
  clear k0 k1 k2 x6 hu6 hr6 hb56 hb7 hren oB oA6
  obtain ⟨k0, k1, k2, -, -, -⟩ := box3_cells x7
  have hCC : (C != C) = false := by simp
  dsimp only
  go_wp2_with fail
  refine hsm.out.mono ?_
  rintro e w8 ⟨rfl, hw8⟩
  obtain rfl := hw8.symm
  clear hsm
  dsimp only
  go_upto_if 63 with (fail)
  go_cut [14] from 13 to 77 (fun v W => Below w7.heap.size w7 W)
  case first =>
    by_cases hC : C = 0
    rotate_left
    · have hC0 : (C == 0) = false := by simp [hC]
      go_wp2_with fail
      go_meet
      exact Below.refl _ _
    · have hD := Lib.hid (hdec.out hC)
      subst hC
      have hde := Lib.hid (bdecode_any _ Y w7 sA.out hYl.out)
      go_wp2_with fail
      refine hde.out.mono ?_
      rintro e w8 hdp
      obtain ⟨ls2, f2, s2, c2, v2, hDo, rfl, hs2, hb8⟩ := decOut_of hdp
      obtain ⟨rfl, rfl, rfl, rfl⟩ := hD.out.uniq hDo
      obtain ⟨B2, d2, rfl, -, -⟩ := hs2.mk_
      have hal9 := balloc w8 (.cells #[.slice B2 ls.length d2, .int .i64 f', .int .i64 s'] 24)
      have x13 := Box.new w8 24 [.slice B2 ls.length d2, .int .i64 f', .int .i64 s']
      change Box (w8.alloc (.cells #[.slice B2 ls.length d2, .int .i64 f', .int .i64 s'] 24)) _ _ _ at x13
      have x9 := x7.below (bgo hb8 hal9)
      have hu9 := (hu7.out.below (bgo hb8 hal9)).more (bgo hb8 hal9).size
      have hv9 := (hs2.below hal9).more hal9.size
      have hsm := Lib.hid (rpsame_eq _ _ ls f' s' _ hu9 hv9 hn1.out)
      have hb9 := Lib.hid (bgo hb8 hal9)
      clear k0 k1 k2 hde hdp hDo hs2 hb8 hal9 hu9 hv9
      dsimp only
      go_upto_region 10 with (fail)
      generalize w8.alloc (.cells #[.slice B2 ls.length d2, .int .i64 f', .int .i64 s'] 24) = W9 at *
      generalize w8.heap.size = g13 at x13 ⊢
      obtain ⟨k0, k1, k2, -, -, -⟩ := box3_cells x9
      obtain ⟨q0, q1, q2, -, -, -⟩ := box3_cells x13
      go_wp2_with fail
      refine hsm.out.mono ?_
      rintro e w10 ⟨rfl, hb10⟩
      have hbz := bgo hb9.out hb10
      clear hsm k0 k1 k2 q0 q1 q2
      dsimp only
      go_wp2_with fail
      go_meet
      exact hbz
  case rest =>
  obtain ⟨W10, rfl⟩ : ∃ W10 : World, W10 = wc := ⟨_, rfl⟩
  have sA10 := Lib.hid (seesB_of sA.out (Nat.le_refl _) hcut)
  have hr10 := Lib.hid (seesB_of hr7.out (Nat.le_refl _) hcut)
  have hb10 := Lib.hid (bgo hb57.out hcut)
  have hfl := Lib.hid (kflip_any _ Y a b W10 sA10.out (by have := hYl.out; omega))
  have hwi := Lib.hid (fun W => kwithin_any a ((Y.length : Int) + 1) (by omega) (by have := hYl.out; omega) W)
  have hm0 := Int.emod_nonneg a (show ((Y.length : Int) + 1) ≠ 0 by omega)
  have hm1 := Int.emod_lt_of_pos a (show (0 : Int) < (Y.length : Int) + 1 by omega)
  obtain ⟨kk, hkk⟩ : ∃ kk : Nat, a % ((Y.length : Int) + 1) = (kk : Int) := ⟨(a % ((Y.length : Int) + 1)).toNat, by omega⟩
  rw [hkk] at hm0 hm1
  rw [hkk] at hwi
  have hkY : kk ≤ Y.length := by omega
  clear hm0 hm1 hkk
  have hYn : (Y.length : Int) ≤ 65535 := by have := hYl.out; omega
  obtain ⟨Ac, hAc⟩ : ∃ x, cutA A6 c6 0 1 = x := ⟨_, rfl⟩
  have rct : ∀ W, (Instr.slice 25 (.slice A6 Y.length c6) none (some (.int .i64 (kk : Int))) none).run Tryz.prog W = .ok (.slice Ac kk c6) W := fun W => by rw [← hAc]; exact run_cut_to (P := Tryz.prog) 25 Tryz.underlying25 1 byte_size A6 Y.length c6 .i64 (kk : Int) (by omega) (by omega) W
  have sC : Hid (∀ W, Below W10.heap.size W10 W → SeesB W W.heap.size (.slice Ac kk c6) (Y.take kk)) := fun W hW => by
    have h := SeesB.cut (a := 0) (b := kk) sA10.out (by omega) hkY
    rw [hAc] at h
    exact seesB_of h (Nat.le_refl _) hW
  clear x7 hu7 hr7 hb57 hcut sA hdec hCC k0 k1 k2 hc6 hc6m
  replace hAc := Lib.hid hAc
  replace hkY := Lib.hid hkY
  go_wp2_with fail
  refine hfl.out.mono ?_
  rintro e w11 ⟨l', hl', vF, rfl, oF, hb11⟩
  obtain ⟨AF, cF, rfl, -, -⟩ := oF.sees.mk_
  replace hl' := Lib.hid hl'
  have hal12 := balloc w11 (.cells #[.slice A1 raw.length c1, .slice AF l'.length cF, .slice Ac kk c6] 25)
  have hkl : Hid ((Y.take kk).length = kk) := by show _ = _; rw [List.length_take]; have := hkY.out; omega
  have hlit : Hid (SeesL (w11.alloc (.cells #[.slice A1 raw.length c1, .slice AF l'.length cF, .slice Ac kk c6] 25)) (w11.alloc (.cells #[.slice A1 raw.length c1, .slice AF l'.length cF, .slice Ac kk c6] 25)).heap.size (.slice (some ⟨w11.heap.size, 0, none⟩) 3 3) [raw, l', Y.take kk]) :=
    seesL_lit w11 25 (vs := [.slice A1 raw.length c1, .slice AF l'.length cF, .slice Ac kk c6]) (ls := [raw, l', Y.take kk]) ⟨seesB_of hr10.out (Nat.le_refl _) hb11, oF.sees, sC.out _ hb11, trivial⟩ (by simp [maxLen])
  have hsmall : Hid (∀ k, k < 3 → ([raw, l', Y.take kk].getD k []).length ≤ 65535) := fun k hk => by
    have h1 := hr600.out
    have h2 := hl'.out
    have h3 := hYl.out
    have h4 := hkl.out
    have h5 := hkY.out
    match k, hk with
    | 0, _ => show raw.length ≤ 65535; omega
    | 1, _ => show l'.length ≤ 65535; omega
    | 2, _ => show (Y.take kk).length ≤ 65535; omega
  have hb12 := Lib.hid (bgo (bgo hb10.out hb11) hal12)
  clear hfl hal12 hb11 oF sC hr10 sA10 hkl
  dsimp only
  go_wp2_with fail
  refine (hwi.out _).mono ?_
  rintro e w12 ⟨rfl, hw12⟩
  obtain rfl := hw12.symm
  clear hwi
  dsimp only
  go_upto_region 13 with (fail)
  generalize w11.alloc (.cells #[.slice A1 raw.length c1, .slice AF l'.length cF, .slice Ac kk c6] 25) = WL at *
  generalize w11.heap.size = gl at hlit ⊢
  go_wp2_with fail
  go_loopw [91] (fun t wr => ∃ k : Nat, k ≤ 3 ∧ t = .int .i64 k ∧ Hid (Below WL.heap.size WL wr)) (fun t _ => 3 - (intOf t).toNat)
  case atStart => exact ⟨0, by omega, rfl, Below.refl _ _⟩
  case round =>
    obtain ⟨k, hk, rfl, hb⟩ := hrel
    by_cases hlt : k < 3
    · have i1 : (k : Int) < 3 := by omega
      have i2 : (0 : Int) ≤ (k : Int) := by omega
      obtain ⟨bb, o, e, hbB, hcell⟩ := SeesL.at_ (hlit.out.below hb.out) (by simp)
      injection e with e
      injection e with e1 e2 e3
      subst e1 e2
      clear e3
      obtain ⟨A', c', z0, -, -, s0⟩ := hcell k (by simpa using hlt)
      have hxs := hsmall.out k hlt
      generalize [raw, l', Y.take kk].getD k [] = x at *
      rw [Nat.zero_add] at z0
      have s1 := Lib.hid (s0.more hb.out.size)
      have hd1 := Lib.hid (bdecode_any _ x wr s1.out hxs)
      clear hcell s0
      go_wp2_with fail
      refine hd1.out.mono ?_
      rintro e w20 hdp
      obtain ⟨ls2, f2, s2, c2, v2, hDo, rfl, hs2, hb20⟩ := decOut_of hdp
      obtain ⟨B2, d2, rfl, -, -⟩ := hs2.mk_
      have hal21 := balloc w20 (.cells #[.slice B2 ls2.length d2, .int .i64 f2, .int .i64 s2] 24)
      have x17 := Box.new w20 24 [.slice B2 ls2.length d2, .int .i64 f2, .int .i64 s2]
      change Box (w20.alloc (.cells #[.slice B2 ls2.length d2, .int .i64 f2, .int .i64 s2] 24)) _ _ _ at x17
      have hv21 := Lib.hid ((hs2.below hal21).more hal21.size)
      have s21 := Lib.hid (seesB_of s1.out (Nat.le_refl _) (bgo hb20 hal21))
      have hb21 := Lib.hid (bgo hb.out (bgo hb20 hal21))
      clear hd1 hdp hs2 hb20 hal21 z0 s1 hb
      dsimp only
      go_upto_region 16 with (fail)
      generalize w20.alloc (.cells #[.slice B2 ls2.length d2, .int .i64 f2, .int .i64 s2] 24) = W21 at *
      generalize w20.heap.size = g17 at x17 ⊢
      have hd2 := Lib.hid (rbdecode_any _ x W21 s21.out hxs)
      go_wp2_with fail
      refine hd2.out.mono ?_
      rintro e w22 hdp
      obtain ⟨ls3, f3, s3, c3, v3, hDo3, rfl, hs3, hb22⟩ := decOut_of hdp
      obtain ⟨rfl, rfl, rfl, rfl⟩ := hDo.uniq hDo3
      obtain ⟨B3, d3, rfl, -, -⟩ := hs3.mk_
      have hal23 := balloc w22 (.cells #[.slice B3 ls2.length d3, .int .i64 f2, .int .i64 s2] 24)
      have x19 := Box.new w22 24 [.slice B3 ls2.length d3, .int .i64 f2, .int .i64 s2]
      change Box (w22.alloc (.cells #[.slice B3 ls2.length d3, .int .i64 f2, .int .i64 s2] 24)) _ _ _ at x19
      have hv23 := (hs3.below hal23).more hal23.size
      have hw23 := (hv21.out.below (bgo hb22 hal23)).more (bgo hb22 hal23).size
      have x17b := x17.below (bgo hb22 hal23)
      have hsm := Lib.hid (rpsame_eq _ _ ls2 f2 s2 _ hw23 hv23 hDo.few)
      have hb23 := Lib.hid (bgo hb21.out (bgo hb22 hal23))
      have hcc : (c2 != c2) = false := by simp
      clear hd2 hdp hDo hDo3 hs3 hb22 hal23 hv23 hw23 x17 hv21 s21 hb21 hxs
      dsimp only
      go_upto_region 17 with (fail)
      generalize w22.alloc (.cells #[.slice B3 ls2.length d3, .int .i64 f2, .int .i64 s2] 24) = W23 at *
      generalize w22.heap.size = g19 at x19 ⊢
      obtain ⟨k0, k1, k2, -, -, -⟩ := box3_cells x17b
      obtain ⟨q0, q1, q2, -, -, -⟩ := box3_cells x19
      go_wp2_with fail
      refine hsm.out.mono ?_
      rintro e w24 ⟨rfl, hb24⟩
      have hbz := Lib.hid (bgo hb23.out hb24)
      clear hsm k0 k1 k2 q0 q1 q2 x17b x19 hb23 hb24
      dsimp only
      go_wp2_with fail
      go_roundw
      case rel => exact ⟨k + 1, by omega, by go_num, hbz⟩
      case measure => simp [intOf]; omega
    · obtain rfl : k = 3 := by omega
      have hbe := Lib.hid (bgo hb12.out hb.out)
      go_wp2_with fail
      refine (bknown_any _).mono ?_
      rintro e w2 ⟨rfl, hb2⟩
      have hbz := Lib.hid (bgo hbe.out hb2)
      dsimp only
      go_wp2_with fail
      go_ret
      exact ⟨rfl, hbz.out⟩
end Go.Proofs.YtcoehlmeegoofaaGreat
