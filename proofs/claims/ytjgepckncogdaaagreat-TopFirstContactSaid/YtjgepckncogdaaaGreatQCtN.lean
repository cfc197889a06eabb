/- What a law leans on beyond the base: contracts, plain functions, walks. Conditions: those of each theorem. -/
import Derived.Test.YtjgepckncogdaaaGreatQCtP
set_option linter.unusedVariables false
set_option linter.unusedSimpArgs false
namespace Go.Proofs.YtjgepckncogdaaaGreat
open Go Go.RowKit
set_option linter.unusedVariables false
set_option linter.unusedSimpArgs false
attribute [local go_sem ↓] Go.wp_at_zero Go.wp_at_succ
theorem take_ch (s : Bs) (k : Nat) (x : UInt8) (h : s[k]? = some x) : (s.take (k + 1)).all chB = ((s.take k).all chB && chB x) := by
 rw [take_one s k x h]; simp
theorem name_yes {s : Bs} (h1 : 1 ≤ s.length) (h2 : s.length ≤ 24) (h : s.all chB = true) : nameB s = true := by
 unfold nameB; rw [h, decide_eq_true ⟨h1, h2⟩]; rfl
theorem name_no {s : Bs} {x : UInt8} {k : Nat} (h : s[k]? = some x) (hx : chB x = false) : nameB s = false := by
 have h9 : s.all chB = false := by
  rw [List.all_eq_false]
  exact ⟨x, List.mem_of_getElem? h, by rw [hx]; simp⟩
 unfold nameB
 rw [h9, Bool.and_false]
theorem name_len {s : Bs} (h : ¬ (1 ≤ s.length ∧ s.length ≤ 24)) : nameB s = false := by
 unfold nameB; rw [decide_eq_false h]; rfl
theorem ch_cases (x : UInt8) : (chB x = true ∧ ((97 ≤ x.toNat ∧ x.toNat ≤ 122) ∨ (¬ 97 ≤ x.toNat ∧ 48 ≤ x.toNat ∧ x.toNat ≤ 57) ∨ (¬ 97 ≤ x.toNat ∧ ¬ 48 ≤ x.toNat ∧ x.toNat = 46) ∨ (¬ 97 ≤ x.toNat ∧ ¬ 48 ≤ x.toNat ∧ ¬ x.toNat = 46 ∧ x.toNat = 45))) ∨
 (chB x = false ∧ ((97 ≤ x.toNat ∧ ¬ x.toNat ≤ 122 ∧ 48 ≤ x.toNat ∧ ¬ x.toNat ≤ 57 ∧ ¬ x.toNat = 46 ∧ ¬ x.toNat = 45) ∨ (¬ 97 ≤ x.toNat ∧ 48 ≤ x.toNat ∧ ¬ x.toNat ≤ 57 ∧ ¬ x.toNat = 46 ∧ ¬ x.toNat = 45) ∨ (¬ 97 ≤ x.toNat ∧ ¬ 48 ≤ x.toNat ∧ ¬ x.toNat = 46 ∧ ¬ x.toNat = 45))) := by
 unfold chB
 simp
 omega
theorem indexByte_no (l : List UInt8) (c : UInt8) (h : ∀ b ∈ l, b ≠ c) : Lib.indexByte l c = -1 := by
 induction l with
 | nil => rfl
 | cons a r ih =>
   have h1 := h a (by simp)
   have h2 := ih (fun b hb => h b (by simp [hb]))
   unfold Lib.indexByte
   rw [if_neg (by simpa using h1), h2]
   rfl
theorem indexByte_ascii (s : ByteArray) (a e : Nat) (c : UInt8) (hs : ∀ b ∈ s.data.toList, b.toNat < 128) (hc : 128 ≤ c.toNat) : Lib.indexByte (s.extract a e).data.toList c = -1 :=
 indexByte_no _ _ fun b hb hbc => by have := hs b (mem_extract hb); rw [hbc] at this; omega
set_option maxRecDepth 1000000 in
set_option maxHeartbeats 2000000 in
theorem indexRune_high (s : ByteArray) (hs : ∀ b ∈ s.data.toList, b.toNat < 128) (hn : 4 ≤ s.size) (hn2 : s.size ≤ 1000) (r : Nat) (h : 128 ≤ r) (w : World) :
 Calls Tryz.prog 278 #[.string s, .int .i32 (r : Int)] w fun e w' => e = .returned (.int .i64 (-1)) ∧ Below w.heap.size w w' := by
 have i1 : (0 : Int) ≤ (r : Int) := by omega
 have i2 : ¬ (r : Int) < 128 := by omega
 replace hs := Lib.hid hs
 by_cases h1 : r = 65533
 · subst h1
   go_enter Tryz.func278, Tryz.ntmps278
   go_wp2_with fail
   go_loopg [5, 6] s.size (fun g s5 s6 wx => ∃ i : Nat, i + g = s.size ∧ wx = w.iter s i)
   case atStart => exact ⟨0, by omega, rfl⟩
   case round =>
    obtain ⟨i, hig, rfl⟩ := hrel
    cases gk with
    | zero =>
      obtain rfl : i = s.size := by omega
      have hnx := run_next_end (P := Tryz.prog) w s s.size
      go_wp2_with fail
      go_ret
      exact ⟨rfl, by unfold World.iter; exact balloc _ _⟩
    | succ g =>
      have hi : i < s.size := by omega
      have ha : (s[i]'hi).toNat < 128 := hs.out _ (Array.getElem_mem_toList (xs := s.data) hi)
      have hnx := fun ty => run_next_ascii (P := Tryz.prog) w s i ty hi ha
      have i3 : (((s[i]'hi).toNat : Int) == 65533) = false := by rw [beq_eq_false_iff_ne]; omega
      go_wp2_with fail
      go_roundg g
      case measure => omega
      case rel => exact ⟨i + 1, by omega, rfl⟩
 · have i3 : ((r : Int) == 65533) = false := by rw [beq_eq_false_iff_ne]; omega
   have hv := fun W => Tryz.utf8_ValidRune (r : Int) W
   cases hV : Lib.validRune (r : Int) with
   | false =>
     rw [hV] at hv
     replace hv := Lib.hid hv
     go_enter Tryz.func278, Tryz.ntmps278
     go_wp2_with fail
     refine (hv.out _).mono ?_
     rintro e w1 ⟨rfl, rfl⟩
     dsimp only
     go_wp2_with fail
     go_ret
     exact ⟨rfl, Below.refl _ _⟩
   | true =>
     rw [hV] at hv
     replace hv := Lib.hid hv
     have hvv : Utf8.valid (r : Int) = true := by rw [validRune_eq]; exact hV
     obtain ⟨f1, f2, f3⟩ := encode_facts (r : Int) hvv (by omega)
     generalize hE : Utf8.encode (r : Int) = E at *
     obtain ⟨m, hm⟩ : ∃ m, E.size = m + 1 := ⟨E.size - 1, by omega⟩
     have hml : m < E.size := by omega
     have f4 : 128 ≤ (E[m]'hml).toNat := by have := f3 (by omega); simpa [hm] using this
     have hms : m < s.size := by omega
     have f5 : (s[m]'hms).toNat < 128 := hs.out _ (Array.getElem_mem_toList (xs := s.data) hms)
     have hr1 : ∀ W : World, (Instr.index 9 (.string E) (.int .i64 (m : Int))).run Tryz.prog W = .ok (.int .u8 ((E[m]'hml).toNat : Int)) W := fun W => by
      rw [run_index_string (h := Tryz.underlying9), dif_pos ⟨by omega, by omega⟩]
      simp only [Int.toNat_natCast]
     have hr2 : ∀ W : World, (Instr.index 9 (.string s) (.int .i64 (m : Int))).run Tryz.prog W = .ok (.int .u8 ((s[m]'hms).toNat : Int)) W := fun W => by
      rw [run_index_string (h := Tryz.underlying9), dif_pos ⟨by omega, by omega⟩]
      simp only [Int.toNat_natCast]
     generalize (E[m]'hml) = c at *
     generalize (s[m]'hms) = d at *
     have hib : ∀ W : World, Calls Tryz.prog 295 #[.string (s.extract (m + 1) s.size), .int .u8 (c.toNat : Int)] W fun e w' => e = .returned (.int .i64 (-1)) ∧ w' = W := fun W => by
      have h9 := Tryz.strings_IndexByte (s.extract (m + 1) s.size) (c.toNat : Int) W
      rw [show ((c.toNat : Int)).toNat.toUInt8 = c by simp, indexByte_ascii s _ _ c hs.out f4] at h9
      exact h9
     have i4 : (((E.size : Nat) : Int) - 1) = (m : Int) := by omega
     have i5 : ((m : Int) < (s.size : Int)) := by omega
     have i6 : ((d.toNat : Int) == (c.toNat : Int)) = false := by rw [beq_eq_false_iff_ne]; omega
     replace hib := Lib.hid hib
     go_enter Tryz.func278, Tryz.ntmps278
     go_wp2_with fail
     refine (hv.out _).mono ?_
     rintro e w1 ⟨rfl, rfl⟩
     dsimp only
     have hcv : ∀ W : World, (convert 21 9 (.int .i32 (r : Int))).run Tryz.prog W = .ok (.string E) W := fun W => by
      rw [run_convert_int_string W _ _ _ _ (by rfl) Tryz.underlying9, hE]
     clear f1 f2 f3 hE hvv hV
     go_wp2_with fail
     go_step3
     go_wp2_with fail
     go_loopw [9, 10] (fun a b wr => a = .int .i64 (m : Int) ∧ b = .int .i64 0 ∧ wr = w1) (fun _ _ _ => 0)
     case atStart => exact ⟨rfl, rfl, rfl⟩
     case round =>
      obtain ⟨rfl, rfl, rfl⟩ := hrel
      go_wp2_with fail
      go_step3
      go_wp2_with fail
      go_quiet (fail)
      go_wp2_with fail
      have iw : IntKind.i64.wrap ((m : Int) + 1) = (m : Int) + 1 := by rw [IntKind.wrap_i64]; omega
      have hsl : ∀ W : World, (Instr.slice 9 (.string s) (some (.int .i64 ((m : Int) + 1))) none none).run Tryz.prog W = .ok (.string (s.extract (m + 1) s.size)) W := fun W => by
       have := run_slice_string_l (P := Tryz.prog) (w := W) 9 s Tryz.underlying9 .i64 ((m : Int) + 1) (by omega) (by omega)
       rw [this]
       rfl
      go_region_held3 (fun W' => Below wr.heap.size wr W') (first | exact Below.refl _ _ | exact below_drewN (Below.refl _ _) _ | exact Below.drew (below_drewN (Below.refl _ _) _) | exact Below.drew (Below.refl _ _) | (go_keep; done)) (first | (go_at_call 295; refine (hib.out _).mono ?_; rintro e w2 ⟨rfl, rfl⟩))
      go_wp2_with fail
      rw [Exit.noGoto_ret]
      try simp only [Exit.inBlock, Exit.then]
      show Exit.noGoto _ Exit.ret _ _
      rw [Exit.noGoto_ret]
      try simp only [Exit.inBlock, Exit.then]
      rw [Exit.noGoto_ret]
      try simp only [Exit.inBlock, Exit.then]
      show bodyPost _ _ _ _ _ _
      go_ret
      exact ⟨rfl, by assumption⟩
def alphaB : ByteArray := { data := #[97, 98, 99, 100, 101, 102, 103, 104, 105, 106, 107, 108, 109, 110, 111, 112, 113, 114, 115, 116, 117, 118, 119, 120, 121, 122, 48, 49, 50, 51, 52, 53, 54, 55, 56, 57, 46, 45] }
theorem alpha_ascii : ∀ b ∈ alphaB.data.toList, b.toNat < 128 := by decide
theorem alpha_all : (List.range 128).all (fun r => decide (0 ≤ Lib.indexByte alphaB.data.toList r.toUInt8) == !(runeC r)) = true := by kernel_rfl
theorem alpha_ok (r : Nat) (h : r < 128) : decide (0 ≤ Lib.indexByte alphaB.data.toList r.toUInt8) = !(runeC r) := by
 have := List.all_eq_true.1 alpha_all r (List.mem_range.2 h)
 simpa using this
theorem contRune_any (r : Nat) (w : World) : Calls Tryz.prog 240 #[.string alphaB, .int .i32 (r : Int)] w fun e w' => e = .returned (.bool (!(runeC r))) ∧ Below w.heap.size w w' := by
 by_cases h : r < 128
 · refine (Tryz.strings_ContainsRune_ascii alphaB (r : Int) w (by omega) (by omega)).mono ?_
   rintro e w1 ⟨rfl, rfl⟩
   refine ⟨?_, Below.refl _ _⟩
   rw [Int.toNat_natCast, alpha_ok r h]
 · have hI := Lib.hid (indexRune_high alphaB alpha_ascii (by decide) (by decide) r (by omega) w)
   rw [runeC_high r (by omega)]
   clear h
   generalize alphaB = S at *
   go_enter Tryz.func240, Tryz.ntmps240
   go_wp2_with fail
   refine hI.out.mono ?_
   rintro e w1 ⟨rfl, hb⟩
   dsimp only
   go_wp2_with fail
   go_ret
   exact ⟨rfl, hb⟩
theorem crune_any (r : Nat) (w : World) : Calls Tryz.prog 239 #[.int .i32 (r : Int)] w fun e w' => e = .returned (.bool (runeC r)) ∧ Below w.heap.size w w' := by
 have hI := contRune_any r w
 unfold alphaB at hI
 generalize runeC r = V at *
 replace hI := Lib.hid hI
 go_enter Tryz.func239, Tryz.ntmps239
 go_wp2_with fail
 refine hI.out.mono ?_
 rintro e w1 ⟨rfl, hb⟩
 dsimp only
 go_wp2_with fail
 go_ret
 exact ⟨by cases V <;> rfl, hb⟩
set_option maxRecDepth 1000000 in
set_option maxHeartbeats 2000000 in
theorem cidx_in (s : ByteArray) (w : World) :
 Calls Tryz.prog 294 #[.string s, .func (.func 239) #[] #[], .bool true] w fun e w' => e = .returned (.int .i64 (Lib.idxFunc runeC true s)) ∧ Below w.heap.size w w' := by
 go_enter Tryz.func294, Tryz.ntmps294
 go_wp2_with fail
 go_loopg [] s.size (fun gf wx => ∃ pos : Nat, wx.heap[w.heap.size]? = some (.stringIter s pos) ∧ Hid (Below w.heap.size w wx) ∧ Hid (Lib.idxFuncFrom runeC true s gf pos = Lib.idxFunc runeC true s) ∧ s.size ≤ pos + gf)
 case atStart => exact ⟨0, World.iter_heap w s 0, (Below.refl _ w).alloc (Nat.le_refl _) _, rfl, by omega⟩
 case round =>
  obtain ⟨pos, hit, hbw, hleft, hfu⟩ := hrel
  replace hleft := hleft.out
  by_cases hps : pos < s.size
  · obtain ⟨g', rfl⟩ : ∃ g', gk = g' + 1 := ⟨gk - 1, by omega⟩
    have hnx : ∀ ty, (Instr.next (.pointer (some ⟨w.heap.size, 0, none⟩)) true ty).run Tryz.prog wr = _ := fun ty => Lib.run_next_any_at wr w.heap.size s pos ty hit hps
    have hwd := Lib.width_pos s pos
    obtain ⟨R, hR⟩ : ∃ R, (Utf8.decode s pos).1 = R := ⟨_, rfl⟩
    obtain ⟨K, hK⟩ : ∃ K, (Utf8.decode s pos).2 = K := ⟨_, rfl⟩
    simp only [Lib.idxFuncFrom, hps, if_true, hR, hK] at hleft
    rw [hR, hK] at hnx
    rw [hK] at hwd
    have hit2 := Lib.iterAt_heap wr w.heap.size s pos (pos + K) hit
    have hbw2 := Lib.below_iterAt hbw.out (k := w.heap.size) (Nat.le_refl _) s (pos + K)
    obtain ⟨W, hWd⟩ : ∃ W, wr.iterAt w.heap.size s (pos + K) = W := ⟨_, rfl⟩
    rw [hWd] at hnx hit2 hbw2
    have hlt : w.heap.size < W.heap.size := (Array.getElem?_eq_some_iff.1 hit2).1
    have cS := crune_any R W
    cases hsp : runeC R with
    | true =>
      rw [hsp] at cS
      simp only [hsp, if_true, Bool.false_eq_true, Bool.true_eq_false, if_false] at hleft
      replace cS := Lib.hid cS
      replace hleft := Lib.hid hleft
      go_wp2_with fail
      refine cS.out.mono ?_
      rintro e W' ⟨rfl, hb⟩
      dsimp only
      go_wp2_with fail
      go_ret
      exact ⟨by rw [← hleft.out] <;> rfl, hbw2.trans (hb.mono (Nat.le_of_lt hlt))⟩
    | false =>
      rw [hsp] at cS
      simp only [hsp, if_true, Bool.false_eq_true, Bool.true_eq_false, if_false] at hleft
      replace cS := Lib.hid cS
      replace hleft := Lib.hid hleft
      go_wp2_with fail
      refine cS.out.mono ?_
      rintro e W' ⟨rfl, hb⟩
      have hit3 := (hb.block _ hlt).trans hit2
      have hb3 := Lib.hid (hbw2.trans (hb.mono (Nat.le_of_lt hlt)))
      dsimp only
      go_wp2_with fail
      go_roundg g'
      case measure => omega
      case rel => exact ⟨pos + K, hit3, hb3, hleft, by omega⟩
  · have hnx : ∀ ty, (Instr.next (.pointer (some ⟨w.heap.size, 0, none⟩)) true ty).run Tryz.prog wr = _ := fun ty => Lib.run_next_end_at wr w.heap.size s pos ty hit hps
    rw [Lib.idxFuncFrom_end runeC true s gk pos hps] at hleft
    replace hleft := Lib.hid hleft
    go_wp2_with fail
    go_ret
    exact ⟨by rw [← hleft.out] <;> rfl, hbw.out⟩
theorem cidx_any (s : ByteArray) (w : World) :
 Calls Tryz.prog 277 #[.string s, .func (.func 239) #[] #[]] w fun e w' => e = .returned (.int .i64 (Lib.idxFunc runeC true s)) ∧ Below w.heap.size w w' := by
 have hI := Lib.hid (cidx_in s w)
 go_enter Tryz.func277, Tryz.ntmps277
 go_wp2_with fail
 refine hI.out.mono ?_
 rintro e w1 ⟨rfl, hb⟩
 dsimp only
 go_wp2_with fail
 go_ret
 exact ⟨rfl, hb⟩
theorem ccont_any (s : ByteArray) (w : World) :
 Calls Tryz.prog 238 #[.string s, .func (.func 239) #[] #[]] w fun e w' => e = .returned (.bool (decide (0 ≤ Lib.idxFunc runeC true s))) ∧ Below w.heap.size w w' := by
 have hI := cidx_any s w
 generalize Lib.idxFunc runeC true s = I at *
 replace hI := Lib.hid hI
 go_enter Tryz.func238, Tryz.ntmps238
 go_wp2_with fail
 refine hI.out.mono ?_
 rintro e w1 ⟨rfl, hb⟩
 by_cases h : 0 ≤ I
 · dsimp only
   go_wp2_with fail
   go_ret
   exact ⟨by rw [decide_eq_true (by omega)]; rfl, hb⟩
 · dsimp only
   go_wp2_with fail
   go_ret
   exact ⟨by rw [decide_eq_false (by omega)]; rfl, hb⟩
theorem cnamed_any (s : Bs) (w : World) : Calls Tryz.prog 181 #[.string (strB s)] w (BoolPost (nameB s) w) := by
 have hsz := strB_size s
 have hid := idx_name s
 have hC := Lib.hid (ccont_any (strB s) w)
 have hD : Hid (nameB s = (decide (1 ≤ s.length ∧ s.length ≤ 24) && s.all chB)) := rfl
 generalize decide (0 ≤ Lib.idxFunc runeC true (strB s)) = D at *
 rw [← hid] at hD
 by_cases h1 : 1 ≤ s.length
 · have hne : ((strB s).toList == ([] : List UInt8)) = false := by
    rw [strB_toList, beq_eq_false_iff_ne]
    intro e
    rw [e] at h1
    simp at h1
   have hne2 : ¬ (strB s).toList = [] := by simpa using hne
   by_cases h2 : s.length ≤ 24
   · have i2 : (s.length : Int) ≤ 24 := by omega
     rw [decide_eq_true (show 1 ≤ s.length ∧ s.length ≤ 24 from ⟨h1, h2⟩)] at hD
     generalize nameB s = V at *
     generalize strB s = S at *
     clear hid h1 h2
     go_enter Tryz.func181, Tryz.ntmps181
     go_wp2_with fail
     refine hC.out.mono ?_
     rintro e w1 ⟨rfl, hb1⟩
     dsimp only
     go_wp2_with fail
     go_ret
     exact ⟨ret_bool (by rw [hD.out]; rfl), hb1⟩
   · have i2 : ¬ (s.length : Int) ≤ 24 := by omega
     rw [decide_eq_false (show ¬ (1 ≤ s.length ∧ s.length ≤ 24) from fun h => h2 h.2)] at hD
     generalize nameB s = V at *
     generalize strB s = S at *
     clear hid h1 h2
     go_enter Tryz.func181, Tryz.ntmps181
     go_wp2_with fail
     go_ret
     exact ⟨ret_bool (by rw [hD.out]; rfl), Below.refl _ _⟩
 · obtain rfl : s = [] := List.eq_nil_of_length_eq_zero (by omega)
   have hD2 : Hid (nameB [] = false) := rfl
   generalize nameB [] = V at *
   have hS : strB [] = ({ data := #[] } : ByteArray) := rfl
   rw [hS]
   clear hid h1 hD hC hsz hS
   go_enter Tryz.func181, Tryz.ntmps181
   go_wp2_with fail
   go_ret
   exact ⟨ret_bool hD2.out.symm, Below.refl _ _⟩
theorem crnamed_any (s : Bs) (w : World) : Calls Tryz.prog 182 #[.string (strB s)] w (BoolPost (nameB s) w) := by
 have hsz := strB_size s
 by_cases h : 1 ≤ s.length ∧ s.length ≤ 24
 · obtain ⟨h1, h2⟩ := h
   have i1 : ¬ ((s.length : Int) < 1) := by omega
   have i2 : ¬ ((24 : Int) < (s.length : Int)) := by omega
   generalize hS : strB s = S at *
   go_enter Tryz.func182, Tryz.ntmps182
   go_wp2_with fail
   go_loopw [3] (fun t wr => ∃ k : Nat, k ≤ s.length ∧ t = .int .i64 k ∧ Hid ((s.take k).all chB = true) ∧ Hid (Below w.heap.size w wr)) (fun t _ => s.length - (intOf t).toNat)
   case atStart => exact ⟨0, by omega, rfl, rfl, Below.refl _ _⟩
   case round =>
    obtain ⟨k, hk, rfl, ha, hb⟩ := hrel
    by_cases hlt : k < s.length
    · obtain ⟨x, hx⟩ : ∃ x, s[k]? = some x := ⟨s[k], List.getElem?_eq_getElem hlt⟩
      have hr : ∀ W : World, (Instr.index 9 (.string S) (.int .i64 (k : Int))).run Tryz.prog W = .ok (.int .u8 (x.toNat : Int)) W := fun W => by
       obtain ⟨h3, h4⟩ := List.getElem?_eq_some_iff.1 hx
       have h6 : k < S.size := by rw [hsz]; exact hlt
       rw [run_index_string (h := Tryz.underlying9), dif_pos ⟨by omega, by omega⟩]
       have h5 : S[k]'h6 = x := by subst hS; exact h4
       simp only [Int.toNat_natCast, h5]
      have i0 : (k : Int) < (s.length : Int) := by omega
      have hta := take_ch s k x hx
      rw [ha.out, Bool.true_and] at hta
      replace hta := Lib.hid hta
      have hno := Lib.hid (name_no (s := s) hx)
      replace hx := Lib.hid hx
      rcases ch_cases x with ⟨hu, hc⟩ | ⟨hu, hc⟩
      · replace hu := Lib.hid hu
        rcases hc with ⟨a1, a2⟩ | ⟨a1, a2, a3⟩ | ⟨a1, a2, a3⟩ | ⟨a1, a2, a3, a4⟩
        · have z1 : (97 : Int) ≤ (x.toNat : Int) := by omega
          have z2 : (x.toNat : Int) ≤ 122 := by omega
          go_wp2_with fail
          go_roundw
          case rel => exact ⟨k + 1, by omega, by go_num, by show _ = _; rw [hta.out, hu.out], hb⟩
          case measure => simp [intOf]; omega
        · have z1 : ¬ (97 : Int) ≤ (x.toNat : Int) := by omega
          have z2 : (48 : Int) ≤ (x.toNat : Int) := by omega
          have z3 : (x.toNat : Int) ≤ 57 := by omega
          go_wp2_with fail
          go_roundw
          case rel => exact ⟨k + 1, by omega, by go_num, by show _ = _; rw [hta.out, hu.out], hb⟩
          case measure => simp [intOf]; omega
        · have z1 : ¬ (97 : Int) ≤ (x.toNat : Int) := by omega
          have z2 : ¬ (48 : Int) ≤ (x.toNat : Int) := by omega
          have z3 : (x.toNat : Int) = 46 := by omega
          go_wp2_with fail
          go_roundw
          case rel => exact ⟨k + 1, by omega, by go_num, by show _ = _; rw [hta.out, hu.out], hb⟩
          case measure => simp [intOf]; omega
        · have z1 : ¬ (97 : Int) ≤ (x.toNat : Int) := by omega
          have z2 : ¬ (48 : Int) ≤ (x.toNat : Int) := by omega
          have z4 : (x.toNat : Int) = 45 := by omega
          go_wp2_with fail
          go_roundw
          case rel => exact ⟨k + 1, by omega, by go_num, by show _ = _; rw [hta.out, hu.out], hb⟩
          case measure => simp [intOf]; omega
      · have hv := Lib.hid (hno.out hu)
        replace hu := Lib.hid hu
        generalize nameB s = V at *
        rcases hc with ⟨a1, a2, a3, a4, a5, a6⟩ | ⟨a1, a2, a3, a5, a6⟩ | ⟨a1, a2, a5, a6⟩
        · have z1 : (97 : Int) ≤ (x.toNat : Int) := by omega
          have z2 : ¬ (x.toNat : Int) ≤ 122 := by omega
          have z3 : (48 : Int) ≤ (x.toNat : Int) := by omega
          have z4 : ¬ (x.toNat : Int) ≤ 57 := by omega
          have z5 : ((x.toNat : Int) == 46) = false := by rw [beq_eq_false_iff_ne]; omega
          have z6 : ((x.toNat : Int) == 45) = false := by rw [beq_eq_false_iff_ne]; omega
          go_wp2_with fail
          go_returns
          exact ⟨ret_bool hv.out.symm, hb.out⟩
        · have z1 : ¬ (97 : Int) ≤ (x.toNat : Int) := by omega
          have z3 : (48 : Int) ≤ (x.toNat : Int) := by omega
          have z4 : ¬ (x.toNat : Int) ≤ 57 := by omega
          have z5 : ((x.toNat : Int) == 46) = false := by rw [beq_eq_false_iff_ne]; omega
          have z6 : ((x.toNat : Int) == 45) = false := by rw [beq_eq_false_iff_ne]; omega
          go_wp2_with fail
          go_returns
          exact ⟨ret_bool hv.out.symm, hb.out⟩
        · have z1 : ¬ (97 : Int) ≤ (x.toNat : Int) := by omega
          have z3 : ¬ (48 : Int) ≤ (x.toNat : Int) := by omega
          have z5 : ((x.toNat : Int) == 46) = false := by rw [beq_eq_false_iff_ne]; omega
          have z6 : ((x.toNat : Int) == 45) = false := by rw [beq_eq_false_iff_ne]; omega
          go_wp2_with fail
          go_returns
          exact ⟨ret_bool hv.out.symm, hb.out⟩
    · obtain rfl : k = s.length := by omega
      have i0 : ¬ (s.length : Int) < (s.length : Int) := by omega
      have hv : Hid (nameB s = true) := name_yes h1 h2 (by have := ha.out; rwa [List.take_length] at this)
      generalize nameB s = V at *
      go_wp2_with fail
      go_returns
      exact ⟨ret_bool hv.out.symm, hb.out⟩
 · have hv := Lib.hid (name_len h)
   have hc : ((s.length : Int) < 1) ∨ (¬ ((s.length : Int) < 1) ∧ (24 : Int) < (s.length : Int)) := by omega
   clear h
   generalize nameB s = V at *
   generalize strB s = S at *
   rcases hc with i1 | ⟨i1, i2⟩
   all_goals
    go_enter Tryz.func182, Tryz.ntmps182
    go_wp2_with fail
    go_returns
    exact ⟨ret_bool hv.out.symm, Below.refl _ _⟩
theorem box5_cells {W : World} {g : Nat} {T : TypeId} {a b c d e : Value} (h : Box W g T [a, b, c, d, e]) : W.cell? ⟨g, 0, none⟩ = some a ∧ W.cell? ⟨g, 1, none⟩ = some b ∧ W.cell? ⟨g, 2, none⟩ = some c ∧ W.cell? ⟨g, 3, none⟩ = some d ∧ W.cell? ⟨g, 4, none⟩ = some e := ⟨h.cell 0, h.cell 1, h.cell 2, h.cell 3, h.cell 4⟩
set_option maxRecDepth 100000 in
theorem cformed_any (n : Bs) (A : Option Addr) (pl c : Nat) (As : Option Addr) (ns cs : Nat) (f t : Int) (w : World) :
 Calls Tryz.prog 110 #[.agg #[.string (strB n), .slice A pl c, .int .i64 f, .int .i64 t, .slice As ns cs]] w (BoolPost (formB n pl f t) w) := by
 have hn := fun W => cnamed_any n W
 have hva := Lib.hid (fun W => valid_any f t W)
 have hD : Hid (formB n pl f t = (nameB n && (decide (pl = 32) && vS f t))) := rfl
 generalize formB n pl f t = V at *
 generalize nameB n = NB at *
 generalize strB n = S at *
 replace hn := Lib.hid hn
 have hal := Lib.hid (balloc w (.cells #[.string S, .slice A pl c, .int .i64 f, .int .i64 t, .slice As ns cs] 70))
 have hx := Box.new w 70 [.string S, .slice A pl c, .int .i64 f, .int .i64 t, .slice As ns cs]
 change Box (w.alloc (.cells #[.string S, .slice A pl c, .int .i64 f, .int .i64 t, .slice As ns cs] 70)) _ _ _ at hx
 go_enter Tryz.func110, Tryz.ntmps110
 go_upto_region 1 with (fail)
 generalize w.alloc (.cells #[.string S, .slice A pl c, .int .i64 f, .int .i64 t, .slice As ns cs] 70) = W0 at *
 generalize hgg : w.heap.size = g at hx ⊢
 replace hgg := Lib.hid hgg
 obtain ⟨y0, -, -, -, -⟩ := box5_cells hx
 go_wp2_with fail
 refine (hn.out _).mono ?_
 rintro e w1 ⟨rfl, hb1⟩
 have hbw := Lib.hid (bgo hal.out hb1)
 obtain ⟨-, y1, y2, y3, -⟩ := box5_cells (hx.below hb1)
 clear y0 hx hb1
 dsimp only
 cases NB with
 | false =>
   go_wp2_with fail
   go_ret
   exact ⟨ret_bool (by rw [hD.out]; rfl), hbw.out⟩
 | true =>
   by_cases hp : pl = 32
   · have i0 : ((pl : Int) == 32) = true := by rw [beq_iff_eq]; omega
     rw [decide_eq_true hp] at hD
     clear hp
     go_wp2_with fail
     refine (hva.out _).mono ?_
     rintro e w2 ⟨rfl, hb2⟩
     dsimp only
     go_wp2_with fail
     go_ret
     exact ⟨ret_bool (by rw [hD.out]; simp), bgo hbw.out hb2⟩
   · have i0 : ((pl : Int) == 32) = false := by rw [beq_eq_false_iff_ne]; omega
     rw [decide_eq_false hp] at hD
     clear hp
     go_wp2_with fail
     go_ret
     exact ⟨ret_bool (by rw [hD.out]; rfl), hbw.out⟩
set_option maxRecDepth 100000 in
theorem cwindow_any (S : ByteArray) (A : Option Addr) (pl c : Nat) (As : Option Addr) (ns cs : Nat) (f t : Int) (w : World) :
 Calls Tryz.prog 104 #[.agg #[.string S, .slice A pl c, .int .i64 f, .int .i64 t, .slice As ns cs]] w fun e w' => e = .returned (.agg #[.int .i64 f, .int .i64 t]) ∧ Below w.heap.size w w' := by
 go_enter Tryz.func104, Tryz.ntmps104
 go_wp2_with fail
 refine bodyPost_ret (v := .agg #[.int .i64 f, .int .i64 t]) (by simp [results, Tryz.results104, go_sem]) rfl ⟨rfl, by go_grown⟩
set_option maxRecDepth 100000 in
theorem crformed_any (n : Bs) (A : Option Addr) (pl c : Nat) (As : Option Addr) (ns cs : Nat) (f t : Int) (w : World) :
 Calls Tryz.prog 113 #[.agg #[.string (strB n), .slice A pl c, .int .i64 f, .int .i64 t, .slice As ns cs]] w (BoolPost (formB n pl f t) w) := by
 have hn := fun W => crnamed_any n W
 have hva := Lib.hid (fun W => rvalid_any f t W)
 have hD : Hid (formB n pl f t = (nameB n && (decide (pl = 32) && vS f t))) := rfl
 generalize formB n pl f t = V at *
 generalize nameB n = NB at *
 generalize strB n = S at *
 replace hn := Lib.hid hn
 have hwn := Lib.hid (fun W => cwindow_any S A pl c As ns cs f t W)
 have hal := Lib.hid (balloc w (.cells #[.string S, .slice A pl c, .int .i64 f, .int .i64 t, .slice As ns cs] 70))
 have hx := Box.new w 70 [.string S, .slice A pl c, .int .i64 f, .int .i64 t, .slice As ns cs]
 change Box (w.alloc (.cells #[.string S, .slice A pl c, .int .i64 f, .int .i64 t, .slice As ns cs] 70)) _ _ _ at hx
 go_enter Tryz.func113, Tryz.ntmps113
 go_upto_region 1 with (fail)
 generalize w.alloc (.cells #[.string S, .slice A pl c, .int .i64 f, .int .i64 t, .slice As ns cs] 70) = W0 at *
 generalize hgg : w.heap.size = g at hx ⊢
 replace hgg := Lib.hid hgg
 obtain ⟨y0, -, -, -, -⟩ := box5_cells hx
 go_wp2_with fail
 refine (hn.out _).mono ?_
 rintro e w1 ⟨rfl, hb1⟩
 have hbw := Lib.hid (bgo hal.out hb1)
 obtain ⟨y0', y1, y2, y3, y4⟩ := box5_cells (hx.below hb1)
 clear y0 hx hb1
 dsimp only
 cases NB with
 | false =>
   go_wp2_with fail
   go_ret
   exact ⟨ret_bool (by rw [hD.out]; rfl), hbw.out⟩
 | true =>
   by_cases hp : pl = 32
   · have i0 : ((pl : Int) == 32) = true := by rw [beq_iff_eq]; omega
     rw [decide_eq_true hp] at hD
     clear hp
     go_wp2_with fail
     refine (hwn.out _).mono ?_
     rintro e w2 ⟨rfl, hb2⟩
     dsimp only
     go_wp2_with fail
     refine (hva.out _).mono ?_
     rintro e w3 ⟨rfl, hb3⟩
     dsimp only
     go_wp2_with fail
     go_ret
     exact ⟨ret_bool (by rw [hD.out]; simp), bgo hbw.out (bgo hb2 hb3)⟩
   · have i0 : ((pl : Int) == 32) = false := by rw [beq_eq_false_iff_ne]; omega
     rw [decide_eq_false hp] at hD
     clear hp
     go_wp2_with fail
     go_ret
     exact ⟨ret_bool (by rw [hD.out]; rfl), hbw.out⟩
end Go.Proofs.YtjgepckncogdaaaGreat
