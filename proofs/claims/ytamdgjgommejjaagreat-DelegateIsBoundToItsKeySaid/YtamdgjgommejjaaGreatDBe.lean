/- A piece of my texts, cut out by slice.py: what a claim leans on. -/
import Derived.Test.YtamdgjgommejjaaGreatDBd
namespace Go.Proofs.YtamdgjgommejjaaGreat
section
open Go.RowKit
set_option linter.unusedVariables false
attribute [local go_sem ↓] Go.wp_at_zero Go.wp_at_succ
def rootTags (ns : List Bs) (lo hi : Int) : List (Bs × Bs) := [(nROOT, rootG (ns.map leafH)), (nSPAN, spanB lo hi)]
def partG (ns : List Bs) (lo hi : Int) : Bs := encT (rootTags ns lo hi)
theorem partG_len (ns : List Bs) (lo hi : Int) : (partG ns lo hi).length ≤ 2048 := by
  unfold partG encT
  split
  · rename_i h
    unfold encC at h
    split at h
    · omega
    split at h
    · split at h
      · omega
      · omega
    · omega
  · simp
theorem pb16 (f t : Int) : (spanB f t).length = 16 := by simp [spanB, putB_len]
theorem names2_litR (w : World) : SeesR (w.alloc (.cells #[.string ⟨#[82, 79, 79, 84]⟩, .string ⟨#[83, 80, 65, 78]⟩] 9)) (w.heap.size + 1) (.slice (some ⟨w.heap.size, 0, none⟩) 2 2) 1 2 (nameS names2) := names2_lit w
set_option maxRecDepth 100000 in
set_option maxHeartbeats 2000000 in
theorem bsigned_any (B : Nat) (u : Value) (ns : List Bs) (lo hi : Int) (w : World) (hu : SeesL w B u ns) (hB : B ≤ w.heap.size) (hv : vS lo hi = true) (hn : ns.length ≤ 16) (hl : ∀ l ∈ ns, l.length = 32) :
    Calls Tryz.prog 43 #[u, .agg #[.int .i64 lo, .int .i64 hi]] w (Gives (partG ns lo hi) w) := by
  obtain ⟨A, c, rfl, -, -⟩ := hu.mk_
  have hal := balloc w (.cells #[.int .i64 lo, .int .i64 hi] 40)
  have x3 := Box.new w 40 [.int .i64 lo, .int .i64 hi]
  change Box (w.alloc (.cells #[.int .i64 lo, .int .i64 hi] 40)) _ _ _ at x3
  have hrt := Lib.hid (root_top ns B _ _ (hu.below (hal.mono hB)) (Nat.le_trans hB hal.size) (by omega) (fun l h => by rw [hl l h]; omega))
  have hsp := Lib.hid (fun W => span_any lo hi W)
  have hR : Hid ((rootG (ns.map leafH)).length = 32) := rootG_len _ (leafs_len ns)
  have hS := Lib.hid (pb16 lo hi)
  have hsl : spanL lo hi = spanB lo hi := by rw [spanL, if_pos hv]
  replace hal := Lib.hid hal
  replace hv := Lib.hid hv
  clear hu hl
  go_enter Tryz.func43, Tryz.ntmps43
  go_upto_region 1 with (fail)
  generalize w.alloc (.cells #[.int .i64 lo, .int .i64 hi] 40) = W at *
  generalize hgg : w.heap.size = g3 at x3 ⊢
  replace hgg := Lib.hid hgg
  go_wp2_with fail
  refine hrt.out.mono ?_
  rintro e w1 ⟨v1, rfl, o1, hb1⟩
  obtain ⟨A1, c1, rfl, -, -⟩ := o1.sees.mk_
  replace x3 := x3.below hb1
  have hbw := Lib.hid (bgo hal.out hb1)
  have y0 := x3.cell 0
  have y1 := x3.cell 1
  simp only [List.getElem?_cons_zero, List.getElem?_cons_succ] at y0 y1
  clear hrt hb1
  dsimp only
  go_wp2_with fail
  refine (hsp.out _).mono ?_
  rintro e w2 ⟨v2, rfl, o2, hb2⟩
  rw [hsl] at o2
  obtain ⟨A2, c2, rfl, -, -⟩ := o2.sees.mk_
  have s1 := seesB_of o1.sees (Nat.le_refl _) hb2
  have s2 := o2.sees
  replace hbw := Lib.hid (bgo hbw.out hb2)
  have hn2 := names2_litR w2
  have hal2 := balloc w2 (.cells #[.string ⟨#[82, 79, 79, 84]⟩, .string ⟨#[83, 80, 65, 78]⟩] 9)
  replace s1 := seesB_of s1 (Nat.le_refl _) hal2
  replace s2 := seesB_of s2 (Nat.le_refl _) hal2
  rw [← World.size_alloc w2 (.cells #[.string ⟨#[82, 79, 79, 84]⟩, .string ⟨#[83, 80, 65, 78]⟩] 9)] at hn2
  replace hbw := Lib.hid (bgo hbw.out hal2)
  have hpg : Hid (partG ns lo hi = encT [(nROOT, rootG (ns.map leafH)), (nSPAN, spanB lo hi)]) := rfl
  generalize rootG (ns.map leafH) = R at *
  generalize spanB lo hi = S at *
  have hms := message_any ((w2.alloc (.cells #[.string ⟨#[82, 79, 79, 84]⟩, .string ⟨#[83, 80, 65, 78]⟩] 9)).alloc (.cells #[.slice A1 R.length c1, .slice A2 S.length c2] 23)).heap.size (.slice (some ⟨w2.heap.size, 0, none⟩) 2 2) (.slice (some ⟨(w2.alloc (.cells #[.string ⟨#[82, 79, 79, 84]⟩, .string ⟨#[83, 80, 65, 78]⟩] 9)).heap.size, 0, none⟩) 2 2) names2 [R, S] ((w2.alloc (.cells #[.string ⟨#[82, 79, 79, 84]⟩, .string ⟨#[83, 80, 65, 78]⟩] 9)).alloc (.cells #[.slice A1 R.length c1, .slice A2 S.length c2] 23))
    ((hn2.below (balloc _ _)).more (balloc _ _).size)
    (seesL_lit _ 23 (vs := [.slice A1 R.length c1, .slice A2 S.length c2]) ⟨s1, s2, trivial⟩ (by simp [maxLen]))
    (Nat.le_refl _) rfl (by simp [names2]) (by
      have h1 := hR.out
      have h2 := hS.out
      simp only [names2, List.zip_cons_cons, List.zip_nil_right, dataT, List.map_cons, List.map_nil, List.flatten_cons, List.flatten_nil, List.length_append, List.length_nil]
      omega)
  rw [show names2.zip [R, S] = [(nROOT, R), (nSPAN, S)] from rfl] at hms
  replace hbw := Lib.hid (bgo hbw.out (balloc (w2.alloc (.cells #[.string ⟨#[82, 79, 79, 84]⟩, .string ⟨#[83, 80, 65, 78]⟩] 9)) (.cells #[.slice A1 R.length c1, .slice A2 S.length c2] 23)))
  rw [World.size_alloc] at hms
  replace hms := Lib.hid hms
  clear y0 y1 x3 hsp o1 o2 s1 s2 hn2 hal2 hb2
  dsimp only
  go_wp2_with fail
  refine hms.out.mono ?_
  rintro e w3 ⟨v3, rfl, o3, hb3⟩
  have hsz := hbw.out.size
  replace hbw := Lib.hid (bgo hbw.out hb3)
  obtain ⟨A3, c3, rfl, -, -⟩ := o3.sees.mk_
  dsimp only
  go_wp2_with fail
  go_returns
  exact ⟨_, rfl, by rw [hpg.out]; exact o3.mono hsz, hbw.out⟩
end
section
open Go.RowKit
set_option linter.unusedVariables false
theorem snoc_of (l : Bs) (n : Nat) (h : l.length = n + 1) : ∃ (r : Bs) (x : UInt8), l = r ++ [x] ∧ r.length = n := by
  have hne : l ≠ [] := by intro e; rw [e] at h; simp at h
  exact ⟨l.dropLast, l.getLast hne, (List.dropLast_concat_getLast hne).symm, by rw [List.length_dropLast]; omega⟩
theorem valB_lt : ∀ (n : Nat) (l : Bs), l.length = n → valB l < 256 ^ n
  | 0, l, h => by
    have : l = [] := List.eq_nil_of_length_eq_zero h
    subst this
    simp [valB]
  | n + 1, l, h => by
    obtain ⟨r, x, rfl, hr⟩ := snoc_of l n h
    have ih := valB_lt n r hr
    rw [valB_append]
    have hx := x.toNat_lt
    have h1 : valB [x] = x.toNat := by simp [valB]
    rw [h1]
    simp only [List.length_singleton, Nat.pow_succ, Nat.pow_zero, Nat.one_mul]
    omega
theorem putB_val : ∀ (n : Nat) (l : Bs), l.length = n → putB n (valB l) = l
  | 0, l, h => by
    have : l = [] := List.eq_nil_of_length_eq_zero h
    subst this
    rfl
  | n + 1, l, h => by
    obtain ⟨r, x, rfl, hr⟩ := snoc_of l n h
    have ih := putB_val n r hr
    rw [putB, valB_append]
    have hx := x.toNat_lt
    have h1 : valB [x] = x.toNat := by simp [valB]
    rw [h1]
    simp only [List.length_singleton, Nat.pow_one]
    rw [show (valB r * 256 + x.toNat) / 256 = valB r by omega, ih]
    congr 2
    apply UInt8.toNat.inj
    rw [UInt8.toNat_ofNat']
    omega
theorem putB_get4 (l : Bs) (h : l.length = 4) : putB 4 (getB l) = l := by
  have h1 := valB_lt 4 l h
  rw [getB_val, Nat.mod_eq_of_lt (by omega), putB_val 4 l h]
theorem putB_get8 (l : Bs) (h : l.length = 8) : putB 8 (getB l) = l := by
  have h1 := valB_lt 8 l h
  rw [getB_val, Nat.mod_eq_of_lt (by omega), putB_val 8 l h]
theorem place_put (b : Bs) (i : Nat) (h : 4 * i + 4 ≤ b.length) : putB 4 (placeN b i) = (b.drop (4 * i)).take 4 :=
  putB_get4 _ (by rw [List.length_take, List.length_drop]; omega)
theorem take_add_drop {α : Type} (l : List α) (i j : Nat) : l.take i ++ (l.drop i).take j = l.take (i + j) := by
  rw [List.take_add]
section
variable (b : Bs) (n : Nat)
theorem at_zero (h1 : 1 ≤ n) (z : Nat) : atN b n z 0 = 0 := by unfold atN fromN; rw [if_pos (by omega), if_pos rfl]
theorem at_end (z : Nat) : atN b n z n = z := by unfold atN; rw [if_neg (by omega)]
theorem data_at (h1 : 1 ≤ n) (hn : 8 * n ≤ b.length) (h : placesOk b (b.length - 8 * n) (n - 1) = true) (k : Nat) (hk : k ≤ n) :
    dataT ((tagsN b n).take k) = (b.drop (8 * n)).take (atN b n (b.length - 8 * n) k) ∧ atN b n (b.length - 8 * n) k ≤ b.length - 8 * n := by
  induction k with
  | zero =>
    rw [at_zero b n h1]
    exact ⟨by simp [dataT], by omega⟩
  | succ k ih =>
    obtain ⟨i1, i2⟩ := ih (by omega)
    have ha := at_le b n (b.length - 8 * n) h k (by omega)
    have hg := tagsN_get b n k (by omega)
    rw [dataT_step _ _ _ hg, i1]
    refine ⟨?_, ha.2⟩
    show _ ++ (tagN b n k).2 = _
    unfold tagN
    rw [take_add_drop]
    congr 1
    omega
theorem names_at (hn : 8 * n ≤ b.length) (k : Nat) (hk : k ≤ n) : namesT ((tagsN b n).take k) = (b.drop (4 * n)).take (4 * k) := by
  induction k with
  | zero => simp [namesT]
  | succ k ih =>
    rw [namesT_step _ _ _ (tagsN_get b n k (by omega)), ih (by omega)]
    show _ ++ (tagN b n k).1 = _
    unfold tagN
    rw [show (b.drop (4 * (n + k))).take 4 = ((b.drop (4 * n)).drop (4 * k)).take 4 by rw [List.drop_drop]; congr 2; omega, take_add_drop]
    congr 1
theorem places_at (h1 : 1 ≤ n) (hn : 8 * n ≤ b.length) (h : placesOk b (b.length - 8 * n) (n - 1) = true) (k : Nat) (hk : k ≤ n - 1) :
    placesT (tagsN b n) k = (b.drop 4).take (4 * k) := by
  induction k with
  | zero => rfl
  | succ k ih =>
    obtain ⟨d1, d2⟩ := data_at b n h1 hn h (k + 1) (by omega)
    have hp := placesOk_get b _ _ h k (by omega)
    have ha : atN b n (b.length - 8 * n) (k + 1) = placeN b (k + 1) := by
      unfold atN fromN
      rw [if_pos (by omega), if_neg (by omega)]
    rw [placesT, ih (by omega), d1, List.length_take, List.length_drop, ha, Nat.min_eq_left (by omega), place_put b (k + 1) (by omega)]
    rw [show (b.drop (4 * (k + 1))).take 4 = ((b.drop 4).drop (4 * k)).take 4 by rw [List.drop_drop]; congr 2; omega, take_add_drop]
    congr 1
theorem tagsN_len : (tagsN b n).length = n := by simp [tagsN]
theorem body_back (h1 : 1 ≤ n) (hn : 8 * n ≤ b.length) (h0 : placeN b 0 = n) (h : placesOk b (b.length - 8 * n) (n - 1) = true) : bodyT (tagsN b n) = b := by
  have e1 : (tagsN b n).take n = tagsN b n := List.take_of_length_le (by rw [tagsN_len]; exact Nat.le_refl _)
  have e2 := (data_at b n h1 hn h n (Nat.le_refl n)).1
  have e3 := names_at b n hn n (Nat.le_refl n)
  rw [e1] at e2 e3
  rw [at_end, List.take_of_length_le (by rw [List.length_drop]; exact Nat.le_refl _)] at e2
  unfold bodyT
  rw [tagsN_len, places_at b n h1 hn h (n - 1) (Nat.le_refl _), e2, e3]
  have e4 := place_put b 0 (by omega)
  rw [h0] at e4
  rw [e4]
  rw [show b.drop (4 * 0) = b from rfl, take_add_drop, show 4 + 4 * (n - 1) = 4 * n by omega, take_add_drop, show 4 * n + 4 * n = 8 * n by omega, List.take_append_drop]
end
/-- What Decode accepts, Encode writes back. -/
theorem enc_back (b : Bs) (h : decC b = 0) : encC (decT b) = 0 ∧ encT (decT b) = b := by
  have hd : decT b = tagsN b (placeN b 0) := by rw [decT, if_pos h]
  unfold decC at h
  split at h
  · omega
  split at h
  · omega
  split at h
  · omega
  split at h
  · omega
  split at h
  · rename_i g1 g2 g3 g4 g5
    have hb := body_back b (placeN b 0) (by omega) (by omega) rfl g5.1
    have he : encC (tagsN b (placeN b 0)) = 0 := by
      unfold encC
      rw [tagsN_len, if_neg (by omega), if_pos h, hb, if_neg g1]
    rw [hd]
    exact ⟨he, by rw [encT, if_pos he, hb]⟩
  · omega
/-- The bytes of a span are written back. -/
theorem span_back (x : Bs) (h : unOk x = true) : vS (unLo x) (unHi x) = true ∧ spanB (unLo x) (unHi x) = x := by
  unfold unOk at h
  simp only [Bool.and_eq_true, decide_eq_true_eq] at h
  refine ⟨h.2, ?_⟩
  have u1 : ∀ l : Bs, u64 (wrap64 (getB l : Int)) = getB l := fun l => by
    have := getB_lt l
    unfold u64 wrap64
    omega
  unfold spanB unLo unHi
  rw [u1, u1, putB_get8 _ (by rw [List.length_take]; omega), putB_get8 _ (by rw [List.length_drop]; omega), List.take_append_drop]
end
section
set_option linter.unusedVariables false
def nKEYS : Bs := [75, 69, 89, 83]
def nANSW : Bs := [65, 78, 83, 87]
def nCERT : Bs := [67, 69, 82, 84]
def names3 : List Bs := [nKEYS, nSIGN, nSPAN]
def namesA : List Bs := [nANSW, nCERT]
def fitsG (s : Bs) : Bool := decide (0 < s.length) && (decide (headN s ≤ 6) && decide (s.length = sizeN s))
def dtags (p : Bs) (f t : Int) (s : Bs) : List (Bs × Bs) := [(nKEYS, p), (nSIGN, pad4 s), (nSPAN, spanB f t)]
def dencC (p : Bs) (f t : Int) (s : Bs) : Int := if p.length = 32 then (if vS f t && fitsG s then 0 else 3) else 5
def dencB (p : Bs) (f t : Int) (s : Bs) : Bs := if dencC p f t s = 0 then bodyT (dtags p f t s) else []
def delOk (b : Bs) : Bool := decide ((decT b).map (·.1) = names3) && decide ((datN b 0).length = 32) && (unpadG (datN b 1)).isSome && unOk (datN b 2)
def delC (b : Bs) : Int := if decC b = 0 then (if delOk b = true then 0 else 3) else decC b
theorem spanB_len (f t : Int) : (spanB f t).length = 16 := by simp [spanB, putB_len]
theorem head_pad (s : Bs) (h : 0 < s.length) : headN (pad4 s) = headN s := by
  cases s with
  | nil => simp at h
  | cons x r => simp [headN, pad4]
theorem size_pad (s : Bs) (h : 0 < s.length) : sizeN (pad4 s) = sizeN s := by unfold sizeN; rw [head_pad s h]
theorem fits_unpad (s : Bs) (h : fitsG s = true) : unpadG (pad4 s) = some s := by
  unfold fitsG at h
  simp only [Bool.and_eq_true, decide_eq_true_eq] at h
  obtain ⟨h0, h1, h2⟩ := h
  have h3 := pad4_len s
  unfold unpadG
  rw [head_pad s h0, size_pad s h0, if_neg (by omega)]
  have h4 : (pad4 s).take (sizeN s) = s := by rw [← h2, pad4, List.take_left]
  rw [h4, if_pos rfl]
theorem unpad_spec {b s : Bs} (h : unpadG b = some s) : fitsG s = true ∧ pad4 s = b := by
  unfold unpadG at h
  split at h
  · cases h
  rename_i g
  split at h
  · rename_i g2
    injection h with h
    subst h
    refine ⟨?_, g2⟩
    unfold fitsG
    have hl : (b.take (sizeN b)).length = sizeN b := by rw [List.length_take]; omega
    have hp : 0 < (b.take (sizeN b)).length := by rw [hl]; unfold sizeN; omega
    have h1 : headN (b.take (sizeN b)) = headN b := by
      rw [← head_pad _ hp, g2]
    have h2 : sizeN (b.take (sizeN b)) = sizeN b := by unfold sizeN at *; rw [h1]
    simp only [Bool.and_eq_true, decide_eq_true_eq]
    rw [h1, h2, hl]
    rw [hl] at hp
    exact ⟨hp, by omega, rfl⟩
  · cases h
theorem head_le (s : Bs) (h : fitsG s = true) : s.length ≤ 757 := by
  unfold fitsG sizeN at h
  simp only [Bool.and_eq_true, decide_eq_true_eq] at h
  omega
theorem dtags_ok (p : Bs) (f t : Int) (s : Bs) (hp : p.length = 32) (hs : fitsG s = true) : encC (dtags p f t s) = 0 := by
  have h1 := pad4_len s
  have h2 := head_le s hs
  have hc : checkT [] (dtags p f t s) = 0 := by
    have e1 : namedG nKEYS = true := by decide
    have e2 : namedG nSIGN = true := by decide
    have e3 : namedG nSPAN = true := by decide
    have o1 : (Op.bytesLess nKEYS [] || nKEYS == []) = false := by decide
    have o2 : (Op.bytesLess nSIGN nKEYS || nSIGN == nKEYS) = false := by decide
    have o3 : (Op.bytesLess nSPAN nSIGN || nSPAN == nSIGN) = false := by decide
    have d1 : p.length % 4 = 0 := by omega
    have d2 : (pad4 s).length % 4 = 0 := by omega
    have d3 : (spanB f t).length % 4 = 0 := by rw [spanB_len]
    simp only [dtags, checkT, e1, e2, e3, o1, o2, o3, d1, d2, d3, if_true, Bool.false_eq_true, if_false]
  have hl : (bodyT (dtags p f t s)).length ≤ 2048 := by
    rw [bodyT_len _ (fun x hx => (checkT_ok _ _ hc x hx).1) (by simp [dtags])]
    have : (dataT (dtags p f t s)).length = 32 + (pad4 s).length + 16 := by
      simp only [dtags, dataT, List.map_cons, List.map_nil, List.flatten_cons, List.flatten_nil, List.length_append, List.length_nil, spanB_len, hp]
      omega
    rw [this]
    simp only [dtags, List.length_cons, List.length_nil]
    omega
  unfold encC
  rw [if_neg (by simp [dtags]), if_pos hc, if_neg (by omega)]
theorem dtags_enc (p : Bs) (f t : Int) (s : Bs) (h : dencC p f t s = 0) : encC (dtags p f t s) = 0 ∧ encT (dtags p f t s) = dencB p f t s := by
  have h0 := h
  unfold dencC at h
  split at h
  · rename_i hp
    split at h
    · rename_i hv
      simp only [Bool.and_eq_true] at hv
      have he := dtags_ok p f t s hp hv.2
      exact ⟨he, by rw [encT, if_pos he, dencB, if_pos h0]⟩
    · omega
  · omega
/-- A message with just these names is its own tags. -/
theorem tags_three (b : Bs) (h : (decT b).map (·.1) = names3) : decT b = [(nKEYS, datN b 0), (nSIGN, datN b 1), (nSPAN, datN b 2)] := by
  unfold datN
  generalize decT b = l at h ⊢
  obtain ⟨x, l, rfl⟩ : ∃ x r, l = x :: r := by cases l with | nil => simp [names3] at h | cons x r => exact ⟨x, r, rfl⟩
  obtain ⟨y, l, rfl⟩ : ∃ x r, l = x :: r := by cases l with | nil => simp [names3] at h | cons x r => exact ⟨x, r, rfl⟩
  obtain ⟨z, l, rfl⟩ : ∃ x r, l = x :: r := by cases l with | nil => simp [names3] at h | cons x r => exact ⟨x, r, rfl⟩
  obtain ⟨x1, x2⟩ := x
  obtain ⟨y1, y2⟩ := y
  obtain ⟨z1, z2⟩ := z
  simp only [names3, List.map_cons, List.cons.injEq, List.map_eq_nil_iff] at h
  obtain ⟨rfl, rfl, rfl, rfl⟩ := h
  rfl
/-- Writing back what was read: the same bytes, just where the key has its length. -/
theorem del_back (b s : Bs) (hd : decC b = 0) (hn : (decT b).map (·.1) = names3) (hs : unpadG (datN b 1) = some s) (hu : unOk (datN b 2) = true) (hl : (datN b 0).length = 32) :
    dencC (datN b 0) (unLo (datN b 2)) (unHi (datN b 2)) s = 0 ∧ dencB (datN b 0) (unLo (datN b 2)) (unHi (datN b 2)) s = b := by
  obtain ⟨f1, f2⟩ := unpad_spec hs
  obtain ⟨s1, s2⟩ := span_back _ hu
  have hc : dencC (datN b 0) (unLo (datN b 2)) (unHi (datN b 2)) s = 0 := by
    unfold dencC
    rw [if_pos hl, s1, f1]
    rfl
  refine ⟨hc, ?_⟩
  obtain ⟨e1, e2⟩ := enc_back b hd
  rw [dencB, if_pos hc, dtags, f2, s2, ← tags_three b hn]
  rw [encT, if_pos e1] at e2
  exact e2
end
section
open Go.RowKit
set_option linter.unusedVariables false
set_option linter.unusedSectionVars false
theorem drop_pre {α : Type} (a b : List α) (n : Nat) (h : a.length = n) : (a ++ b).drop n = b := by
  rw [← h, List.drop_left]
theorem take_pre {α : Type} (a b : List α) (n : Nat) (h : a.length = n) : (a ++ b).take n = a := by
  rw [← h, List.take_left]
section
variable (ts : List (Bs × Bs)) (h4 : ∀ t ∈ ts, t.1.length = 4 ∧ t.2.length % 4 = 0) (hn : 1 ≤ ts.length) (hl : (bodyT ts).length ≤ 2048)
include h4 hn
theorem body_len : (bodyT ts).length = 8 * ts.length + (dataT ts).length := bodyT_len ts (fun t ht => (h4 t ht).1) hn
theorem body_first : (bodyT ts).take 4 = putB 4 ts.length := by
  rw [bodyT, List.append_assoc, List.append_assoc, take_pre _ _ 4 (putB_len _ _)]
theorem body_after : (bodyT ts).drop 4 = placesT ts (ts.length - 1) ++ (namesT ts ++ dataT ts) := by
  rw [bodyT, List.append_assoc, List.append_assoc, drop_pre _ _ 4 (putB_len _ _)]
theorem body_names : (bodyT ts).drop (4 * ts.length) = namesT ts ++ dataT ts := by
  rw [bodyT, List.append_assoc, List.append_assoc, ← List.append_assoc (putB 4 ts.length)]
  exact drop_pre _ _ _ (by rw [List.length_append, putB_len, placesT_len]; omega)
theorem body_data : (bodyT ts).drop (8 * ts.length) = dataT ts := by
  have hN := namesT_len ts (fun t ht => (h4 t ht).1)
  rw [show 8 * ts.length = 4 * ts.length + 4 * ts.length by omega, ← List.drop_drop, body_names ts h4 hn]
  exact drop_pre _ _ _ hN
theorem dataT_pre (k : Nat) : (dataT (ts.take k)).length ≤ (dataT ts).length ∧ (dataT (ts.take k)).length % 4 = 0 := by
  induction k with
  | zero => simp [dataT]
  | succ k ih =>
    by_cases hk : k < ts.length
    · have hg : ts[k]? = some ts[k] := List.getElem?_eq_getElem hk
      rw [dataT_step ts k _ hg, List.length_append]
      have hm := (h4 ts[k] (List.getElem_mem hk)).2
      refine ⟨?_, by omega⟩
      have : dataT ts = dataT (ts.take (k + 1)) ++ dataT (ts.drop (k + 1)) := by
        unfold dataT
        rw [← List.flatten_append, ← List.map_append, List.take_append_drop]
      rw [this, dataT_step ts k _ hg, List.length_append, List.length_append]
      omega
    · rw [List.take_of_length_le (by omega)] at ih ⊢
      exact ih
theorem places_get (j k : Nat) (hj : j < k) (hk : k ≤ ts.length - 1) : ((placesT ts k).drop (4 * j)).take 4 = putB 4 (dataT (ts.take (j + 1))).length := by
  induction k with
  | zero => omega
  | succ k ih =>
    rw [placesT]
    by_cases hjk : j = k
    · subst hjk
      rw [drop_pre _ _ _ (placesT_len ts j)]
      exact List.take_of_length_le (by rw [putB_len]; omega)
    · rw [List.drop_append_of_le_length (by rw [placesT_len]; omega), List.take_append_of_le_length (by rw [List.length_drop, placesT_len]; omega)]
      exact ih (by omega) (by omega)
include hl
theorem place_body (j : Nat) (hj : j + 1 < ts.length) : placeN (bodyT ts) (j + 1) = (dataT (ts.take (j + 1))).length := by
  have hb := body_len ts h4 hn
  have hd := (dataT_pre ts h4 hn (j + 1)).1
  unfold placeN
  rw [show 4 * (j + 1) = 4 + 4 * j by omega, ← List.drop_drop, body_after ts h4 hn]
  rw [List.drop_append_of_le_length (by rw [placesT_len]; omega), List.take_append_of_le_length (by rw [List.length_drop, placesT_len]; omega)]
  rw [places_get ts h4 hn j (ts.length - 1) (by omega) (Nat.le_refl _)]
  exact getB_put4 _ (by omega)
theorem place_zero (h16 : ts.length ≤ 16) : placeN (bodyT ts) 0 = ts.length := by
  unfold placeN
  rw [show 4 * 0 = 0 from rfl, List.drop_zero, body_first ts h4 hn]
  exact getB_put4 _ (by omega)
theorem from_body (j : Nat) (hj : j < ts.length) : fromN (bodyT ts) j = (dataT (ts.take j)).length := by
  cases j with
  | zero => simp [fromN, dataT]
  | succ j =>
    unfold fromN
    rw [if_neg (by omega)]
    exact place_body ts h4 hn hl j hj
theorem at_body (j : Nat) (hj : j ≤ ts.length) : atN (bodyT ts) ts.length ((bodyT ts).length - 8 * ts.length) j = (dataT (ts.take j)).length := by
  have hb := body_len ts h4 hn
  unfold atN
  by_cases h : j < ts.length
  · rw [if_pos h]
    exact from_body ts h4 hn hl j h
  · rw [if_neg h, List.take_of_length_le (by omega), hb]
    omega
theorem ok_body (k : Nat) (hk : k ≤ ts.length - 1) : placesOk (bodyT ts) ((bodyT ts).length - 8 * ts.length) k = true := by
  have hb := body_len ts h4 hn
  induction k with
  | zero => rfl
  | succ k ih =>
    obtain ⟨p1, p2⟩ := dataT_pre ts h4 hn (k + 1)
    have hg : ts[k]? = some ts[k] := List.getElem?_eq_getElem (by omega)
    have hs := dataT_step ts k _ hg
    have q1 : (dataT (ts.take k)).length ≤ (dataT (ts.take (k + 1))).length := by rw [hs, List.length_append]; omega
    have q2 : (dataT (ts.take (k + 1))).length ≤ (bodyT ts).length - 8 * ts.length := by omega
    rw [placesOk, ih (by omega), place_body ts h4 hn hl k (by omega), from_body ts h4 hn hl k (by omega), decide_eq_true p2, decide_eq_true q1, decide_eq_true q2]
    rfl
theorem tag_body (j : Nat) (hj : j < ts.length) : tagN (bodyT ts) ts.length j = ts[j] := by
  have hb := body_len ts h4 hn
  have hg : ts[j]? = some ts[j] := List.getElem?_eq_getElem hj
  have hN := fun k => namesT_len (ts.take k) (fun t ht => (h4 t (List.mem_of_mem_take ht)).1)
  have hd := dataT_step ts j _ hg
  have hnm := namesT_step ts j _ hg
  have e1 : namesT ts = namesT (ts.take (j + 1)) ++ namesT (ts.drop (j + 1)) := by
    unfold namesT
    rw [← List.flatten_append, ← List.map_append, List.take_append_drop]
  have e2 : dataT ts = dataT (ts.take (j + 1)) ++ dataT (ts.drop (j + 1)) := by
    unfold dataT
    rw [← List.flatten_append, ← List.map_append, List.take_append_drop]
  have h1 := hN j
  rw [List.length_take] at h1
  have hx := (h4 ts[j] (List.getElem_mem hj)).1
  unfold tagN
  rw [at_body ts h4 hn hl j (by omega), at_body ts h4 hn hl (j + 1) (by omega), body_data ts h4 hn]
  rw [show 4 * (ts.length + j) = 4 * ts.length + 4 * j by omega, ← List.drop_drop, body_names ts h4 hn, e1, hnm, List.append_assoc, List.append_assoc]
  rw [drop_pre (namesT (ts.take j)) _ (4 * j) (by omega), take_pre _ _ 4 hx]
  rw [e2, hd, List.append_assoc, drop_pre (dataT (ts.take j)) _ _ rfl, take_pre _ _ _ (by rw [List.length_append]; omega)]
theorem tags_body : tagsN (bodyT ts) ts.length = ts := by
  apply List.ext_getElem?
  intro j
  by_cases hj : j < ts.length
  · rw [tagsN_get _ _ _ hj, tag_body ts h4 hn hl j hj, List.getElem?_eq_getElem hj]
  · rw [List.getElem?_eq_none (by rw [tagsN_len]; omega), List.getElem?_eq_none (by omega)]
end
/-- Decode gives back what Encode wrote. -/
theorem dec_enc (ts : List (Bs × Bs)) (h : encC ts = 0) : decC (encT ts) = 0 ∧ decT (encT ts) = ts := by
  have he : encT ts = bodyT ts := by rw [encT, if_pos h]
  rw [he]
  unfold encC at h
  split at h
  · omega
  rename_i g1
  split at h
  · rename_i g2
    split at h
    · omega
    rename_i g3
    have h4 := checkT_ok ts [] g2
    have hn : 1 ≤ ts.length := by omega
    have hl : (bodyT ts).length ≤ 2048 := by omega
    have hb := body_len ts h4 hn
    have h0 := place_zero ts h4 hn hl (by omega)
    have hd := (dataT_pre ts h4 hn ts.length).2
    rw [List.take_of_length_le (Nat.le_refl _)] at hd
    have hc : decC (bodyT ts) = 0 := by
      rw [dec_tags (bodyT ts) (by omega) (by omega) (by omega) (by omega) ⟨by rw [h0]; exact ok_body ts h4 hn hl _ (Nat.le_refl _), by rw [h0]; omega⟩, h0, tags_body ts h4 hn hl]
      exact g2
    exact ⟨hc, by rw [decT, if_pos hc, h0, tags_body ts h4 hn hl]⟩
  · rename_i g2
    exact absurd h g2
/-- A delegation that was written is read back. -/
theorem del_forth (p : Bs) (f t : Int) (s : Bs) (h : dencC p f t s = 0) (hf : unOk (spanB f t) = true) :
    delC (dencB p f t s) = 0 ∧ datN (dencB p f t s) 0 = p ∧ unpadG (datN (dencB p f t s) 1) = some s ∧ datN (dencB p f t s) 2 = spanB f t := by
  obtain ⟨e1, e2⟩ := dtags_enc p f t s h
  obtain ⟨d1, d2⟩ := dec_enc _ e1
  rw [e2] at d1 d2
  have hp : p.length = 32 ∧ fitsG s = true := by
    unfold dencC at h
    split at h
    · rename_i hp
      split at h
      · rename_i hv
        simp only [Bool.and_eq_true] at hv
        exact ⟨hp, hv.2⟩
      · omega
    · omega
  have k0 : datN (dencB p f t s) 0 = p := by unfold datN; rw [d2]; rfl
  have k1 : datN (dencB p f t s) 1 = pad4 s := by unfold datN; rw [d2]; rfl
  have k2 : datN (dencB p f t s) 2 = spanB f t := by unfold datN; rw [d2]; rfl
  have ku := fits_unpad s hp.2
  refine ⟨?_, k0, by rw [k1]; exact ku, k2⟩
  have hok : delOk (dencB p f t s) = true := by
    unfold delOk
    rw [k0, k1, k2, ku, hf, d2, decide_eq_true hp.1]
    rfl
  unfold delC
  rw [if_pos d1, if_pos hok]
theorem head_sig (sd : Bs) (h i : Nat) (m : Bs) (hh : h ≤ 6) : fitsG (sigG sd h i m) = true := by
  have hl := sigG_len sd h i m
  have h0 : headN (sigG sd h i m) = h := by
    unfold headN sigG
    rw [List.append_assoc, List.append_assoc]
    show (UInt8.ofNat h).toNat = h
    rw [UInt8.toNat_ofNat']
    omega
  unfold fitsG sizeN
  rw [h0, hl, decide_eq_true (by omega), decide_eq_true hh, decide_eq_true rfl]
  rfl
end
section
open Go.RowKit
set_option linter.unusedVariables false
def ansTags (i n : Nat) (P S part : Bs) : List (Bs × Bs) := [(nINDX, putB 4 i), (nNUMB, putB 4 n), (nPATH, P), (nSIGN, pad4 S), (nSREP, part)]
theorem ansTags_zip (i n : Nat) (P S part : Bs) : names5.zip [putB 4 i, putB 4 n, P, pad4 S, part] = ansTags i n P S part := rfl
def ansB (ns : List Bs) (S part : Bs) (i : Nat) : Bs := encT (ansTags i ns.length (pathG (ns.map leafH) i).flatten S part)
def ansL (ns : List Bs) (S part : Bs) (k : Nat) : List Bs := (List.range k).map (ansB ns S part)
theorem ansL_next (ns : List Bs) (S part : Bs) (k : Nat) : ansL ns S part (k + 1) = ansL ns S part k ++ [ansB ns S part k] := by
  rw [ansL, ansL, List.range_succ, List.map_append]; rfl
theorem ansL_len (ns : List Bs) (S part : Bs) (k : Nat) : (ansL ns S part k).length = k := by simp [ansL]
theorem encT_len (ts : List (Bs × Bs)) : (encT ts).length ≤ 2048 := by
  unfold encT
  split
  · rename_i h
    unfold encC at h
    split at h
    · omega
    split at h
    · split at h
      · omega
      · omega
    · omega
  · simp
theorem ansB_len (ns : List Bs) (S part : Bs) (i : Nat) : (ansB ns S part i).length ≤ 2048 := encT_len _
theorem pathF_len (ns : List Bs) (i : Nat) : (pathG (ns.map leafH) i).length ≤ ns.length ∧ (∀ x ∈ pathG (ns.map leafH) i, x.length = 32) ∧ (pathG (ns.map leafH) i).flatten.length = 32 * (pathG (ns.map leafH) i).length := by
  have h1 := pathG_short (ns.map leafH) i
  rw [List.length_map] at h1
  have h2 : ∀ x ∈ pathG (ns.map leafH) i, x.length = 32 := pathG_el _ _ _ (Nat.le_refl _) (leafs_len ns)
  exact ⟨h1, h2, by rw [flat_len 32 _ h2, Nat.mul_comm]⟩
/-- What Answer returns: the signer (seed, height, next), the answers, the error. -/
def answerR (sd : Bs) (h n : Int) (ns : List Bs) (lo hi : Int) : (Bs × Int × Int) × List Bs × Int :=
  if bchkC sd h n ns lo hi = 0 then
    (if (signAll sd h n (tBatch ++ partG ns lo hi)).2.2.2.2 = 0 then
      (((signAll sd h n (tBatch ++ partG ns lo hi)).1, (signAll sd h n (tBatch ++ partG ns lo hi)).2.1, (signAll sd h n (tBatch ++ partG ns lo hi)).2.2.1), ansL ns (signAll sd h n (tBatch ++ partG ns lo hi)).2.2.2.1 (partG ns lo hi) ns.length, 0)
    else (([], 0, 0), [], (signAll sd h n (tBatch ++ partG ns lo hi)).2.2.2.2))
  else (([], 0, 0), [], bchkC sd h n ns lo hi)
def AnswerP (r : (Bs × Int × Int) × List Bs × Int) (w : World) (e : Ending) (w' : World) : Prop :=
  ∃ v1 v2, e = .returned (.tuple #[.agg #[v1, .int .i64 r.1.2.1, .int .i64 r.1.2.2], v2, .int .i64 r.2.2]) ∧ Elt w' v2 v1 r.1.1 ∧ OwnL w' w.heap.size v2 r.2.1 ∧ Below w.heap.size w w'
theorem answer_bad {r : (Bs × Int × Int) × List Bs × Int} {c : Int} (h : r = (([], 0, 0), [], c)) {w w' : World} (hb : Below w.heap.size w w') : AnswerP r w (.returned (.tuple #[.agg #[.slice none 0 0, .int .i64 0, .int .i64 0], .slice none 0 0, .int .i64 c])) w' := by
  subst h
  exact ⟨_, _, rfl, ⟨SeesB.nil _ _, fun h => absurd rfl h⟩, OwnL.nil _ _, hb⟩
theorem answer_ok {r : (Bs × Int × Int) × List Bs × Int} {rs : Bs} {rh rn : Int} {ls : List Bs} (h : r = ((rs, rh, rn), ls, 0)) {w W : World} {base : Nat} {v1 v2 : Value} (t1 : SeesB W W.heap.size v1 rs) (ta : rs ≠ [] → ∀ k, v1.ownBlock = some k → v2.ownBlock ≠ some k) (t2 : OwnL W base v2 ls) (hbase : w.heap.size ≤ base) (hb : Below w.heap.size w W) : AnswerP r w (.returned (.tuple #[.agg #[v1, .int .i64 rh, .int .i64 rn], v2, .int .i64 0])) W := by
  subst h
  exact ⟨_, _, rfl, ⟨t1, ta⟩, t2.mono hbase, hb⟩
theorem bchk_zero {sd : Bs} {h n : Int} {ns : List Bs} {lo hi : Int} (hc : bchkC sd h n ns lo hi = 0) : validI sd h n = true ∧ 1 ≤ ns.length ∧ ns.length ≤ 16 ∧ vS lo hi = true ∧ ∀ l ∈ ns, l.length = 32 := by
  unfold bchkC at hc
  split at hc
  · rename_i h1
    split at hc
    · omega
    · rename_i h2
      split at hc
      · rename_i h3
        rw [Bool.and_eq_true] at h3
        exact ⟨h1, by omega, by omega, h3.1, all32_each h3.2⟩
      · omega
  · omega
theorem sign_sig {sd : Bs} {h n : Int} {m : Bs} (hv : validI sd h n = true) (h0 : (signAll sd h n m).2.2.2.2 = 0) : ∃ k i : Nat, h = (k : Int) ∧ n = (i : Int) ∧ k ≤ 6 ∧ i < 2 ^ k ∧ sd.length = 32 ∧ signAll sd h n m = (sd, h, n + 1, sigG sd k i m, 0) := by
  have hh : sd.length = 32 ∧ 0 ≤ h ∧ h ≤ 6 ∧ 0 ≤ n ∧ n ≤ 2 ^ h.toNat := by simp [validI] at hv; omega
  obtain ⟨hl, h0', h1, h2, h3⟩ := hh
  obtain ⟨k, rfl⟩ := Int.eq_ofNat_of_zero_le h0'
  obtain ⟨i, rfl⟩ := Int.eq_ofNat_of_zero_le h2
  rw [Int.toNat_natCast] at h3
  have hpc : ((2 ^ k : Nat) : Int) = (2 : Int) ^ k := by simp
  by_cases hn : (i : Int) = 2 ^ k
  · have : signAll sd k i m = ([], 0, 0, [], 7) := by
      rw [signAll, if_pos hv, if_pos (by rw [Int.toNat_natCast]; exact hn)]
    rw [this] at h0
    simp at h0
  · have : signAll sd k i m = (sd, (k : Int), (i : Int) + 1, sigG sd k i m, 0) := by simp [signAll, hv, hn]
    exact ⟨k, i, rfl, rfl, by omega, by omega, hl, this⟩
theorem answer_first {sd : Bs} {h : Int} {ns : List Bs} {lo hi : Int} (hl : sd.length = 32) (h0 : 0 ≤ h) (h1 : h ≤ 6) (n1 : 1 ≤ ns.length) (n2 : ns.length ≤ 16) (hn : ∀ l ∈ ns, l.length = 32) (hv : vS lo hi = true) :
    answerR sd h 0 ns lo hi = ((sd, h, 1), ansL ns (sigG sd h.toNat 0 (tBatch ++ partG ns lo hi)) (partG ns lo hi) ns.length, 0) := by
  have hV : validI sd h 0 = true := by
    obtain ⟨k, rfl⟩ := Int.eq_ofNat_of_zero_le h0
    exact validI_mk sd k 0 hl (by omega) (Nat.zero_le _)
  have ha : all32 ns = true := by
    unfold all32
    rw [List.all_eq_true]
    intro l hl
    simp [hn l hl]
  have hc : bchkC sd h 0 ns lo hi = 0 := by
    unfold bchkC
    rw [if_pos hV, if_neg (by omega), hv, ha]
    rfl
  have hs : ∀ m, signAll sd h 0 m = (sd, h, 1, sigG sd h.toNat 0 m, 0) := fun m => by
    unfold signAll
    have hp : (1 : Int) ≤ 2 ^ h.toNat := by
      have h9 : 0 < 2 ^ h.toNat := Nat.pos_of_ne_zero (by simp)
      have : ((2 ^ h.toNat : Nat) : Int) = (2 : Int) ^ h.toNat := by simp
      omega
    rw [if_pos hV, if_neg (by omega)]
    rfl
  rw [answerR, if_pos hc, hs]
  rfl
end
section
open Go Go.RowKit
set_option linter.unusedVariables false
attribute [local go_sem ↓] Go.wp_at_zero Go.wp_at_succ
def tGrant : Bs := [115, 101, 99, 116, 105, 109, 101, 32, 103, 114, 97, 110, 116]
theorem bgoD {w W0 W : World} {g : Nat} (h1 : Below g w W0) (h2 : Below W0.heap.size W0 W) (hg : g = w.heap.size) : Below w.heap.size w W := by
  subst hg
  exact bgo h1 h2
set_option maxRecDepth 100000 in
theorem dwindow_any (A : Option Addr) (n c : Nat) (A2 : Option Addr) (n2 c2 : Nat) (f t : Int) (w : World) : Calls Tryz.prog 19 #[.agg #[.slice A n c, .int .i64 f, .int .i64 t, .slice A2 n2 c2]] w fun e w' => e = .returned (.agg #[.int .i64 f, .int .i64 t]) ∧ Below w.heap.size w w' := by
  go_enter Tryz.func19, Tryz.ntmps19
  go_wp2_with fail
  refine bodyPost_ret (v := .agg #[.int .i64 f, .int .i64 t]) (by simp [results, Tryz.results19, go_sem]) rfl ⟨rfl, by go_grown⟩
theorem litG_run (W : World) (G : Nat) (hG : G = W.heap.size) : (convert 23 23 (.slice (some ⟨G, 0, none⟩) 13 13)).run Tryz.prog (W.alloc (.cells #[.int .u8 115, .int .u8 101, .int .u8 99, .int .u8 116, .int .u8 105, .int .u8 109, .int .u8 101, .int .u8 32, .int .u8 103, .int .u8 114, .int .u8 97, .int .u8 110, .int .u8 116] 5)) = .ok (.slice (some ⟨G, 0, none⟩) 13 13) (W.alloc (.cells #[.int .u8 115, .int .u8 101, .int .u8 99, .int .u8 116, .int .u8 105, .int .u8 109, .int .u8 101, .int .u8 32, .int .u8 103, .int .u8 114, .int .u8 97, .int .u8 110, .int .u8 116] 5 (13, 14))) := by
  subst hG
  exact Lib.run_convert_bytes_const W 23 5 #[.int .u8 115, .int .u8 101, .int .u8 99, .int .u8 116, .int .u8 105, .int .u8 109, .int .u8 101, .int .u8 32, .int .u8 103, .int .u8 114, .int .u8 97, .int .u8 110, .int .u8 116] 13 13 Tryz.underlying23 Tryz.underlying5
theorem litG_sees (W : World) : SeesB (W.alloc (.cells #[.int .u8 115, .int .u8 101, .int .u8 99, .int .u8 116, .int .u8 105, .int .u8 109, .int .u8 101, .int .u8 32, .int .u8 103, .int .u8 114, .int .u8 97, .int .u8 110, .int .u8 116] 5 (13, 14))) (W.heap.size + 1) (.slice (some ⟨W.heap.size, 0, none⟩) 13 13) tGrant := litB_sees W tGrant (13, 14) (by simp [tGrant])
set_option maxRecDepth 100000 in
set_option maxHeartbeats 1000000 in
theorem dsigned_any (B : Nat) (u : Value) (As : Option Addr) (ns cs : Nat) (p : Bs) (f t : Int) (w : World) (hu : SeesB w B u p) (hB : B ≤ w.heap.size) (hp : p.length ≤ 1048576) :
    Calls Tryz.prog 59 #[.agg #[u, .int .i64 f, .int .i64 t, .slice As ns cs]] w (Gives (tGrant ++ p ++ spanL f t) w) := by
  obtain ⟨A, c, rfl, -, -⟩ := hu.mk_
  have hal := balloc w (.cells #[.slice A p.length c, .int .i64 f, .int .i64 t, .slice As ns cs] 27)
  have hx := Box.new w 27 [.slice A p.length c, .int .i64 f, .int .i64 t, .slice As ns cs]
  change Box (w.alloc (.cells #[.slice A p.length c, .int .i64 f, .int .i64 t, .slice As ns cs] 27)) _ _ _ at hx
  have sp := seesB_of hu hB hal
  have hsl : (spanL f t).length ≤ 16 := by unfold spanL; split <;> simp [spanB, putB_len]
  replace sp := Lib.hid sp
  clear hu
  go_enter Tryz.func59, Tryz.ntmps59
  go_wp2_with fail
  refine (dwindow_any A p.length c As ns cs f t _).mono ?_
  rintro e w1 ⟨rfl, hb1⟩
  dsimp only
  go_wp2_with fail
  refine (span_any f t _).mono ?_
  rintro e w2 ⟨v, rfl, h2, hb2⟩
  have hb02 := bgo hb1 hb2
  have hx2 := hx.below hb02
  have sp2 := seesB_of sp.out (Nat.le_refl _) hb02
  have hbw := bgo hal hb02
  have ssp := h2.sees
  obtain ⟨A2, c2, rfl, -, -⟩ := h2.sees.mk_
  generalize spanL f t = SL at *
  have hcv := litG_run w2 w2.heap.size rfl
  have hbL := balloc w2 (.cells #[.int .u8 115, .int .u8 101, .int .u8 99, .int .u8 116, .int .u8 105, .int .u8 109, .int .u8 101, .int .u8 32, .int .u8 103, .int .u8 114, .int .u8 97, .int .u8 110, .int .u8 116] 5 (13, 14))
  have x0 : (w2.alloc (.cells #[.int .u8 115, .int .u8 101, .int .u8 99, .int .u8 116, .int .u8 105, .int .u8 109, .int .u8 101, .int .u8 32, .int .u8 103, .int .u8 114, .int .u8 97, .int .u8 110, .int .u8 116] 5 (13, 14))).cell? ⟨w.heap.size, 0, none⟩ = some (.slice A p.length c) := (hx2.below hbL).cell 0
  have hLS := litG_sees w2
  have hfl : [tGrant, p, SL].flatten = tGrant ++ p ++ SL := by simp
  have htl : tGrant.length = 13 := rfl
  have hj : Calls Tryz.prog 45 #[.slice (some ⟨w2.heap.size + 1, 0, none⟩) 3 3] ((w2.alloc (.cells #[.int .u8 115, .int .u8 101, .int .u8 99, .int .u8 116, .int .u8 105, .int .u8 109, .int .u8 101, .int .u8 32, .int .u8 103, .int .u8 114, .int .u8 97, .int .u8 110, .int .u8 116] 5 (13, 14))).alloc (.cells #[.slice (some ⟨w2.heap.size, 0, none⟩) 13 13, .slice A p.length c, .slice A2 SL.length c2] 23)) fun e w' => ∃ v, e = .returned v ∧ OwnB w' w2.heap.size v [tGrant, p, SL].flatten ∧ Below w2.heap.size w2 w' :=
    join_lit (vs := [.slice (some ⟨w2.heap.size, 0, none⟩) 13 13, .slice A p.length c, .slice A2 SL.length c2]) [tGrant, p, SL] w2 (w2.alloc (.cells #[.int .u8 115, .int .u8 101, .int .u8 99, .int .u8 116, .int .u8 105, .int .u8 109, .int .u8 101, .int .u8 32, .int .u8 103, .int .u8 114, .int .u8 97, .int .u8 110, .int .u8 116] 5 (13, 14))) (w2.heap.size + 1) (World.size_alloc _ _) hbL ⟨hLS.more (by rw [World.size_alloc]; exact Nat.le_refl _), seesB_of sp2 (Nat.le_refl _) hbL, seesB_of ssp (Nat.le_refl _) hbL, trivial⟩ (by simp) (by rw [hfl, List.length_append, List.length_append, htl]; omega)
  rw [hfl] at hj
  generalize hM : tGrant ++ p ++ SL = M at *
  replace hM := Lib.hid hM
  replace hj := Lib.hid hj
  replace hbw := Lib.hid hbw
  clear sp sp2 ssp hLS hbL hx hx2 hb1 hb2 hb02 hal h2
  dsimp only
  go_wp2_with fail
  refine hj.out.mono ?_
  rintro e w3 ⟨v3, rfl, h3, hb3⟩
  dsimp only
  go_wp2_with fail
  go_ret
  exact ⟨v3, rfl, h3.mono hbw.out.size, bgo hbw.out hb3⟩
set_option maxRecDepth 100000 in
set_option maxHeartbeats 1000000 in
theorem rtext_any (B : Nat) (u : Value) (p : Bs) (f t : Int) (w : World) (hu : SeesB w B u p) (hB : B ≤ w.heap.size) (hp : p.length ≤ 1048576) :
    Calls Tryz.prog 31 #[u, .int .i64 f, .int .i64 t] w (Gives (tGrant ++ p ++ spanB f t) w) := by
  obtain ⟨A, c, rfl, -, -⟩ := hu.mk_
  have hcv := litG_run w w.heap.size rfl
  have hbL := balloc w (.cells #[.int .u8 115, .int .u8 101, .int .u8 99, .int .u8 116, .int .u8 105, .int .u8 109, .int .u8 101, .int .u8 32, .int .u8 103, .int .u8 114, .int .u8 97, .int .u8 110, .int .u8 116] 5 (13, 14))
  have hLS := litG_sees w
  have sp := seesB_of hu hB hbL
  have hsl : (spanB f t).length ≤ 16 := by simp [spanB, putB_len]
  have hLS2 := Lib.hid (hLS.more (show w.heap.size + 1 ≤ (w.alloc (.cells #[.int .u8 115, .int .u8 101, .int .u8 99, .int .u8 116, .int .u8 105, .int .u8 109, .int .u8 101, .int .u8 32, .int .u8 103, .int .u8 114, .int .u8 97, .int .u8 110, .int .u8 116] 5 (13, 14))).heap.size by rw [World.size_alloc]; exact Nat.le_refl _))
  replace sp := Lib.hid sp
  clear hu hLS
  go_enter Tryz.func31, Tryz.ntmps31
  go_wp2_with fail
  refine (rspanbytes_any f t _).mono ?_
  rintro e w1 ⟨v1, rfl, h1, hb1⟩
  have ssp := h1.sees
  obtain ⟨A1, c1, rfl, -, -⟩ := h1.sees.mk_
  have sp1 := seesB_of sp.out (Nat.le_refl _) hb1
  have sl1 := seesB_of hLS2.out (Nat.le_refl _) hb1
  have hbw := bgo hbL hb1
  generalize hG : w.heap.size = G at sl1 ⊢
  replace hG := Lib.hid hG
  generalize spanB f t = SL at *
  have hfl : [tGrant, p, SL].flatten = tGrant ++ p ++ SL := by simp
  have htl : tGrant.length = 13 := rfl
  have hj := rjoin_lit (vs := [.slice (some ⟨G, 0, none⟩) 13 13, .slice A p.length c, .slice A1 SL.length c1]) [tGrant, p, SL] w1 w1 w1.heap.size rfl (Below.refl _ _) ⟨sl1, sp1, ssp, trivial⟩ (by simp) (by rw [hfl, List.length_append, List.length_append, htl]; omega)
  rw [hfl] at hj
  generalize hM : tGrant ++ p ++ SL = M at *
  replace hM := Lib.hid hM
  replace hj := Lib.hid hj
  replace hbw := Lib.hid hbw
  clear sp sp1 sl1 ssp hbL hLS2 hb1 h1 hcv
  dsimp only
  go_wp2_with fail
  refine hj.out.mono ?_
  rintro e w3 ⟨v3, rfl, h3, hb3⟩
  dsimp only
  go_wp2_with fail
  go_ret
  exact ⟨v3, rfl, h3.mono hbw.out.size, bgo hbw.out hb3⟩
def dcheckC (l p : Bs) (f t : Int) (s : Bs) : Int := if l.length = 32 ∧ p.length = 32 then (if vS f t then (if verifyG l (tGrant ++ p ++ spanB f t) s then 0 else 26) else 3) else 5
def DChkP (l p : Bs) (f t : Int) (s : Bs) (w : World) (e : Ending) (w' : World) : Prop := e = .returned (.int .i64 (dcheckC l p f t s)) ∧ Below w.heap.size w w'
theorem chk_ret {l p s : Bs} {f t c : Int} (h : dcheckC l p f t s = c) {w w' : World} {e : Ending} (he : e = .returned (.int .i64 c)) (hb : Below w.heap.size w w') : DChkP l p f t s w e w' := ⟨by rw [h]; exact he, hb⟩
set_option maxRecDepth 100000 in
set_option maxHeartbeats 2000000 in
theorem dcheck_any (B : Nat) (u u2 u3 : Value) (l p s : Bs) (f t : Int) (w : World) (hu : SeesB w B u l) (hu2 : SeesB w B u2 p) (hu3 : SeesB w B u3 s) (hB : B ≤ w.heap.size) (hs : s.length ≤ 1048576) :
    Calls Tryz.prog 26 #[u, .agg #[u2, .int .i64 f, .int .i64 t, u3]] w (DChkP l p f t s w) := by
  obtain ⟨Al, cl, rfl, -, -⟩ := hu.mk_
  obtain ⟨Ap, cp, rfl, -, -⟩ := hu2.mk_
  obtain ⟨As, cs, rfl, -, -⟩ := hu3.mk_
  have hal := balloc w (.cells #[.slice Ap p.length cp, .int .i64 f, .int .i64 t, .slice As s.length cs] 27)
  have hx := Box.new w 27 [.slice Ap p.length cp, .int .i64 f, .int .i64 t, .slice As s.length cs]
  change Box (w.alloc (.cells #[.slice Ap p.length cp, .int .i64 f, .int .i64 t, .slice As s.length cs] 27)) _ _ _ at hx
  have sl := seesB_of hu hB hal
  have sp := seesB_of hu2 hB hal
  have ss := seesB_of hu3 hB hal
  have hd : Hid (dcheckC l p f t s = if l.length = 32 ∧ p.length = 32 then (if vS f t then (if verifyG l (tGrant ++ p ++ spanB f t) s then 0 else 26) else 3) else 5) := rfl
  have bx := fun j => hx.cell j
  have y0 := hx.cell 0
  have y1 := hx.cell 1
  have y2 := hx.cell 2
  have y3 := hx.cell 3
  simp only [List.getElem?_cons_zero, List.getElem?_cons_succ] at y0 y1 y2 y3
  clear hu hu2 hu3 bx
  by_cases hl : l.length = 32
  · have il : ((l.length : Int) != 32) = false := by simp; omega
    by_cases hp : p.length = 32
    · have ip : ((p.length : Int) != 32) = false := by simp; omega
      replace y0 := Lib.hid y0
      have hwn := Lib.hid (fun W => dwindow_any Ap p.length cp As s.length cs f t W)
      have hva := Lib.hid (fun W => valid_any f t W)
      have hm : (tGrant ++ p ++ spanB f t).length ≤ 65535 := by rw [List.length_append, List.length_append]; simp [tGrant, spanB, putB_len]; omega
      replace hal := Lib.hid hal
      cases hv : vS f t with
      | false =>
        have hC : Hid (dcheckC l p f t s = 3) := by show _ = _; rw [hd.out, if_pos ⟨hl, hp⟩, hv]; rfl
        rw [hv] at hva
        replace hl := Lib.hid hl
        replace hp := Lib.hid hp
        replace hv := Lib.hid hv
        replace hm := Lib.hid hm
        clear sl sp ss hd
        go_enter Tryz.func26, Tryz.ntmps26
        go_upto_region 1 with (fail)
        generalize w.alloc (.cells #[.slice Ap p.length cp, .int .i64 f, .int .i64 t, .slice As s.length cs] 27) = W0 at *
        generalize hgg : w.heap.size = g at hx y0 y1 y2 y3 hal ⊢
        replace hgg := Lib.hid hgg
        have x0 := y0.out
        go_wp2_with fail
        refine (hwn.out _).mono ?_
        rintro e w1 ⟨rfl, hb1⟩
        dsimp only
        go_wp2_with fail
        refine (hva.out _).mono ?_
        rintro e w2 ⟨rfl, hb2⟩
        dsimp only
        go_wp2_with fail
        go_returns
        exact chk_ret hC.out rfl (bgoD hal.out (bgo hb1 hb2) hgg.out.symm)
      | true =>
        have hC : Hid (dcheckC l p f t s = if verifyG l (tGrant ++ p ++ spanB f t) s then 0 else 26) := by show _ = _; rw [hd.out, if_pos ⟨hl, hp⟩, hv]; rfl
        rw [hv] at hva
        have hsg := fun (W : World) (hW : Below (w.alloc (.cells #[.slice Ap p.length cp, .int .i64 f, .int .i64 t, .slice As s.length cs] 27)).heap.size (w.alloc (.cells #[.slice Ap p.length cp, .int .i64 f, .int .i64 t, .slice As s.length cs] 27)) W) => (show Calls Tryz.prog 59 #[.agg #[.slice Ap p.length cp, .int .i64 f, .int .i64 t, .slice As s.length cs]] W (Gives (tGrant ++ p ++ spanB f t) W) from by
        have h9 := dsigned_any W.heap.size (.slice Ap p.length cp) As s.length cs p f t W (seesB_of sp (Nat.le_refl _) hW) (Nat.le_refl _) (by omega)
        rw [show spanL f t = spanB f t by rw [spanL, if_pos hv]] at h9
        exact h9)
        have hvr := fun (W : World) (v : Value) (hW : Below (w.alloc (.cells #[.slice Ap p.length cp, .int .i64 f, .int .i64 t, .slice As s.length cs] 27)).heap.size (w.alloc (.cells #[.slice Ap p.length cp, .int .i64 f, .int .i64 t, .slice As s.length cs] 27)) W) (hv : SeesB W W.heap.size v (tGrant ++ p ++ spanB f t)) => verify_any W.heap.size (.slice Al l.length cl) v (.slice As s.length cs) l (tGrant ++ p ++ spanB f t) s W (seesB_of sl (Nat.le_refl _) hW) hv (seesB_of ss (Nat.le_refl _) hW) (Nat.le_refl _) (by omega) hs
        generalize verifyG l (tGrant ++ p ++ spanB f t) s = V at *
        generalize tGrant ++ p ++ spanB f t = M at *
        replace hsg := Lib.hid hsg
        replace hvr := Lib.hid hvr
        replace hl := Lib.hid hl
        replace hp := Lib.hid hp
        replace hv := Lib.hid hv
        replace hm := Lib.hid hm
        clear sl sp ss hd
        go_enter Tryz.func26, Tryz.ntmps26
        go_upto_region 1 with (fail)
        generalize w.alloc (.cells #[.slice Ap p.length cp, .int .i64 f, .int .i64 t, .slice As s.length cs] 27) = W0 at *
        generalize hgg : w.heap.size = g at hx y0 y1 y2 y3 hal ⊢
        replace hgg := Lib.hid hgg
        have x0 := y0.out
        go_wp2_with fail
        refine (hwn.out _).mono ?_
        rintro e w1 ⟨rfl, hb1⟩
        dsimp only
        go_wp2_with fail
        refine (hva.out _).mono ?_
        rintro e w2 ⟨rfl, hb2⟩
        have hb02 := bgo hb1 hb2
        have hx2 := hx.below hb02
        clear x0 y0 y1 y2 y3 hb1 hb2 hwn hva
        have K : Hid (∀ W : World, Below w2.heap.size w2 W → W.cell? ⟨g, 0, none⟩ = some (.slice Ap p.length cp) ∧ W.cell? ⟨g, 1, none⟩ = some (.int .i64 f) ∧ W.cell? ⟨g, 2, none⟩ = some (.int .i64 t) ∧ W.cell? ⟨g, 3, none⟩ = some (.slice As s.length cs)) := fun W hW => ⟨(hx2.below hW).cell 0, (hx2.below hW).cell 1, (hx2.below hW).cell 2, (hx2.below hW).cell 3⟩
        obtain ⟨x0, x1, x2, x3⟩ := K.out w2 (Below.refl _ _)
        have hsg2 := Lib.hid (hsg.out w2.drew (hb02.drew))
        replace hb02 := Lib.hid hb02
        replace hx := Lib.hid hx
        replace hx2 := Lib.hid hx2
        clear hsg
        dsimp only
        go_wp2_with fail
        go_region_held3 (fun W' : World => W'.cell? ⟨g, 0, none⟩ = some (.slice Ap p.length cp) ∧ W'.cell? ⟨g, 1, none⟩ = some (.int .i64 f) ∧ W'.cell? ⟨g, 2, none⟩ = some (.int .i64 t) ∧ W'.cell? ⟨g, 3, none⟩ = some (.slice As s.length cs))
          (first | (with_reducible exact K.out _ hb4) | (with_reducible exact K.out _ hb3) | exact K.out _ (by (repeat (first | exact Below.refl _ _ | (refine bgo ?_ (balloc _ _)) | (refine bgo ?_ (bdrew _)) | (refine bgo ?_ (by assumption))))) | (go_keep; done))
          (first
            | (go_at_call 58; (with_reducible refine (hvr.out _ _ (bgo hb02.out hb3) h3.sees).mono ?_); rintro e w4 ⟨rfl, hb4⟩; replace hb4 := bgo hb3 hb4)
            | (go_at_call 59; (with_reducible refine hsg2.out.mono ?_); rintro e w3 ⟨v3, rfl, h3, hb3⟩; replace hb3 := bgo (bdrew w2) hb3; obtain ⟨A3, c3, rfl, -, -⟩ := h3.sees.mk_))
        all_goals
          have hfin := bgo hb02.out hb4
          clear x0 x1 x2 x3 K hsg2 hvr h3 hb3 hb4
          cases V with
          | false =>
            go_wp2_with fail
            go_returns
            exact chk_ret (by rw [hC.out]; rfl) rfl (bgoD hal.out hfin hgg.out.symm)
          | true =>
            go_wp2_with fail
            go_returns
            exact chk_ret (by rw [hC.out]; rfl) rfl (bgoD hal.out hfin hgg.out.symm)
    · have ip : ((p.length : Int) != 32) = true := by simp; omega
      have hC : Hid (dcheckC l p f t s = 5) := by show _ = _; rw [hd.out, if_neg (by omega)]
      clear sl sp ss hd hp y1 y2 y3
      replace hl := Lib.hid hl
      go_enter Tryz.func26, Tryz.ntmps26
      go_wp2_with fail
      go_returns
      exact chk_ret hC.out rfl hal
  · have il : ((l.length : Int) != 32) = true := by simp; omega
    have hC : Hid (dcheckC l p f t s = 5) := by show _ = _; rw [hd.out, if_neg (by omega)]
    clear sl sp ss hd y0 y1 y2 y3 hl
    go_enter Tryz.func26, Tryz.ntmps26
    go_wp2_with fail
    go_returns
    exact chk_ret hC.out rfl hal
end
section
open Go Go.RowKit
set_option linter.unusedVariables false
set_option linter.unusedSimpArgs false
attribute [local go_sem ↓] Go.wp_at_zero Go.wp_at_succ
section
variable {W : World} {g8 g9 : Nat} {T8 T9 : TypeId} {a0 a1 a2 b0 b1 b2 b3 : Value}
theorem set34 (h8 : Box W g8 T8 [a0, a1, a2]) (h9 : Box W g9 T9 [b0, b1, b2, b3]) (hne : g8 ≠ g9) (x0 x1 x2 z0 z1 z2 z3 : Value) :
    Box (((((((W.setCell ⟨g8, 0, none⟩ x0).setCell ⟨g8, 1, none⟩ x1).setCell ⟨g8, 2, none⟩ x2).setCell ⟨g9, 0, none⟩ z0).setCell ⟨g9, 1, none⟩ z1).setCell ⟨g9, 2, none⟩ z2).setCell ⟨g9, 3, none⟩ z3) g8 T8 [x0, x1, x2] ∧ Box (((((((W.setCell ⟨g8, 0, none⟩ x0).setCell ⟨g8, 1, none⟩ x1).setCell ⟨g8, 2, none⟩ x2).setCell ⟨g9, 0, none⟩ z0).setCell ⟨g9, 1, none⟩ z1).setCell ⟨g9, 2, none⟩ z2).setCell ⟨g9, 3, none⟩ z3) g9 T9 [z0, z1, z2, z3] ∧ (∀ w : World, Below w.heap.size w W → w.heap.size ≤ g8 → w.heap.size ≤ g9 → Below w.heap.size w (((((((W.setCell ⟨g8, 0, none⟩ x0).setCell ⟨g8, 1, none⟩ x1).setCell ⟨g8, 2, none⟩ x2).setCell ⟨g9, 0, none⟩ z0).setCell ⟨g9, 1, none⟩ z1).setCell ⟨g9, 2, none⟩ z2).setCell ⟨g9, 3, none⟩ z3)) := by
  refine ⟨?_, ?_, fun w hb h1 h2 => ?_⟩
  · have y := ((h8.set 0 x0).set 1 x1).set 2 x2
    simp only [List.set_cons_zero, List.set_cons_succ] at y
    exact (((y.other hne).other hne).other hne).other hne
  · have y := ((((((h9.other (G := g8) (j := 0) (v := x0) hne.symm).other (j := 1) (v := x1) hne.symm).other (j := 2) (v := x2) hne.symm).set 0 z0).set 1 z1).set 2 z2).set 3 z3
    simpa only [List.set_cons_zero, List.set_cons_succ] using y
  · exact ((((((hb.setCell (p := ⟨g8, 0, none⟩) h1 _).setCell (p := ⟨g8, 1, none⟩) h1 _).setCell (p := ⟨g8, 2, none⟩) h1 _).setCell (p := ⟨g9, 0, none⟩) h2 _).setCell (p := ⟨g9, 1, none⟩) h2 _).setCell (p := ⟨g9, 2, none⟩) h2 _).setCell (p := ⟨g9, 3, none⟩) h2 _
theorem box_off3 (h9 : Box W g9 T9 [b0, b1, b2, b3]) (hne : g8 ≠ g9) (x0 x1 x2 : Value) : Box (((W.setCell ⟨g8, 0, none⟩ x0).setCell ⟨g8, 1, none⟩ x1).setCell ⟨g8, 2, none⟩ x2) g9 T9 [b0, b1, b2, b3] := ((h9.other hne.symm).other hne.symm).other hne.symm
/-- Bytes read behind both. -/
theorem sees34 (h8 : Box W g8 T8 [a0, a1, a2]) (h9 : Box W g9 T9 [b0, b1, b2, b3]) (n8 : NoByte [a0, a1, a2]) (n9 : NoByte [b0, b1, b2, b3]) (hne : g8 ≠ g9) (x0 x1 x2 z0 z1 z2 z3 : Value) {u : Value} {l : Bs} (h : SeesB W W.heap.size u l) : SeesB (((((((W.setCell ⟨g8, 0, none⟩ x0).setCell ⟨g8, 1, none⟩ x1).setCell ⟨g8, 2, none⟩ x2).setCell ⟨g9, 0, none⟩ z0).setCell ⟨g9, 1, none⟩ z1).setCell ⟨g9, 2, none⟩ z2).setCell ⟨g9, 3, none⟩ z3) (((((((W.setCell ⟨g8, 0, none⟩ x0).setCell ⟨g8, 1, none⟩ x1).setCell ⟨g8, 2, none⟩ x2).setCell ⟨g9, 0, none⟩ z0).setCell ⟨g9, 1, none⟩ z1).setCell ⟨g9, 2, none⟩ z2).setCell ⟨g9, 3, none⟩ z3).heap.size u l := by
  have y9 : Box (((W.setCell ⟨g8, 0, none⟩ x0).setCell ⟨g8, 1, none⟩ x1).setCell ⟨g8, 2, none⟩ x2) g9 T9 [b0, b1, b2, b3] := ((h9.other hne.symm).other hne.symm).other hne.symm
  have k8 := h.over (Nat.le_refl _) h8 n8 (ggo (ggo (setCell_grown W g8 0 x0) (setCell_grown _ g8 1 x1)) (setCell_grown _ g8 2 x2))
  have k9 := k8.over (by simp [World.setCell]) y9 n9 (ggo (ggo (ggo (setCell_grown _ g9 0 z0) (setCell_grown _ g9 1 z1)) (setCell_grown _ g9 2 z2)) (setCell_grown _ g9 3 z3))
  exact k9.more (by simp [World.setCell])
theorem noBL3' {a b c : Value} (ha : NoB a) (hb : NoB b) (hc : NoB c) : NoByte [a, b, c] := by
  intro x hx n e
  simp only [List.mem_cons, List.not_mem_nil, or_false] at hx
  rcases hx with rfl | rfl | rfl
  · exact ha n e
  · exact hb n e
  · exact hc n e
end
/-- What Grant returns: the signer (seed, height, next), the delegation (key, from, to, signature), the error. -/
def grantR (sd : Bs) (h n : Int) (p : Bs) (f t : Int) : (Bs × Int × Int) × (Bs × Int × Int × Bs) × Int :=
  if validI sd h n = true then
    (if p.length = 32 then
      (if vS f t = true then
        (if (signAll sd h n (tGrant ++ p ++ spanB f t)).2.2.2.2 = 0 then
          (((signAll sd h n (tGrant ++ p ++ spanB f t)).1, (signAll sd h n (tGrant ++ p ++ spanB f t)).2.1, (signAll sd h n (tGrant ++ p ++ spanB f t)).2.2.1), (p, f, t, (signAll sd h n (tGrant ++ p ++ spanB f t)).2.2.2.1), 0)
        else (([], 0, 0), ([], 0, 0, []), (signAll sd h n (tGrant ++ p ++ spanB f t)).2.2.2.2))
      else (([], 0, 0), ([], 0, 0, []), 3))
    else (([], 0, 0), ([], 0, 0, []), 5))
  else (([], 0, 0), ([], 0, 0, []), 3)
def GrantP (r : (Bs × Int × Int) × (Bs × Int × Int × Bs) × Int) (w : World) (e : Ending) (w' : World) : Prop :=
  ∃ v1 v2 v3, e = .returned (.tuple #[.agg #[v1, .int .i64 r.1.2.1, .int .i64 r.1.2.2], .agg #[v2, .int .i64 r.2.1.2.1, .int .i64 r.2.1.2.2.1, v3], .int .i64 r.2.2]) ∧ SeesB w' w'.heap.size v1 r.1.1 ∧ SeesB w' w'.heap.size v2 r.2.1.1 ∧ SeesB w' w'.heap.size v3 r.2.1.2.2.2 ∧ Below w.heap.size w w'
theorem grant_bad {r : (Bs × Int × Int) × (Bs × Int × Int × Bs) × Int} {c : Int} (h : r = (([], 0, 0), ([], 0, 0, []), c)) {w w' : World} (hb : Below w.heap.size w w') : GrantP r w (.returned (.tuple #[.agg #[.slice none 0 0, .int .i64 0, .int .i64 0], .agg #[.slice none 0 0, .int .i64 0, .int .i64 0, .slice none 0 0], .int .i64 c])) w' := by
  subst h
  exact ⟨_, _, _, rfl, SeesB.nil _ _, SeesB.nil _ _, SeesB.nil _ _, hb⟩
theorem box3_cells {W : World} {g : Nat} {T : TypeId} {a b c : Value} (h : Box W g T [a, b, c]) : W.cell? ⟨g, 0, none⟩ = some a ∧ W.cell? ⟨g, 1, none⟩ = some b ∧ W.cell? ⟨g, 2, none⟩ = some c ∧ W.frozen? ⟨g, 0, none⟩ = false ∧ W.frozen? ⟨g, 1, none⟩ = false ∧ W.frozen? ⟨g, 2, none⟩ = false := ⟨h.cell 0, h.cell 1, h.cell 2, h.frozen 0, h.frozen 1, h.frozen 2⟩
theorem box4_cells {W : World} {g : Nat} {T : TypeId} {a b c d : Value} (h : Box W g T [a, b, c, d]) : W.cell? ⟨g, 0, none⟩ = some a ∧ W.cell? ⟨g, 1, none⟩ = some b ∧ W.cell? ⟨g, 2, none⟩ = some c ∧ W.cell? ⟨g, 3, none⟩ = some d ∧ W.frozen? ⟨g, 0, none⟩ = false ∧ W.frozen? ⟨g, 1, none⟩ = false ∧ W.frozen? ⟨g, 2, none⟩ = false ∧ W.frozen? ⟨g, 3, none⟩ = false := ⟨h.cell 0, h.cell 1, h.cell 2, h.cell 3, h.frozen 0, h.frozen 1, h.frozen 2, h.frozen 3⟩
theorem below_set3 {w W : World} {g : Nat} (h : Below w.heap.size w W) (hg : w.heap.size ≤ g) (x y z : Value) : Below w.heap.size w (((W.setCell ⟨g, 0, none⟩ x).setCell ⟨g, 1, none⟩ y).setCell ⟨g, 2, none⟩ z) :=
  ((h.setCell (p := ⟨g, 0, none⟩) hg _).setCell (p := ⟨g, 1, none⟩) hg _).setCell (p := ⟨g, 2, none⟩) hg _
/-- What the signing region leaves: the next signer's block, the signature, the error. -/
def SgnR (w8 : World) (rs : Bs) (rh rn : Int) (rg : Bs) (rc : Int) (v12 v13 v14 : Value) (W : World) : Prop :=
  ∃ g A1 k1 A2 k2, v12 = .pointer (some ⟨g, 0, none⟩) ∧ v13 = .slice A2 rg.length k2 ∧ v14 = .int .i64 rc ∧ Box W g 25 [.slice A1 rs.length k1, .int .i64 rh, .int .i64 rn] ∧ SeesB W W.heap.size (.slice A1 rs.length k1) rs ∧ SeesB W W.heap.size (.slice A2 rg.length k2) rg ∧ w8.heap.size ≤ g ∧ Below w8.heap.size w8 W
theorem sgn_new (w8 w10 : World) (rs : Bs) (rh rn : Int) (rg : Bs) (rc : Int) (A1 : Option Addr) (k1 : Nat) (A2 : Option Addr) (k2 : Nat) (t1 : SeesB w10 w10.heap.size (.slice A1 rs.length k1) rs) (t2 : SeesB w10 w10.heap.size (.slice A2 rg.length k2) rg) (hb : Below w8.heap.size w8 w10) :
    SgnR w8 rs rh rn rg rc (.pointer (some ⟨w10.heap.size, 0, none⟩)) (.slice A2 rg.length k2) (.int .i64 rc) (w10.alloc (.cells #[.slice A1 rs.length k1, .int .i64 rh, .int .i64 rn] 25)) :=
  ⟨_, A1, k1, A2, k2, rfl, rfl, rfl, Box.new w10 25 [.slice A1 rs.length k1, .int .i64 rh, .int .i64 rn], seesB_of t1 (Nat.le_refl _) (balloc w10 _), seesB_of t2 (Nat.le_refl _) (balloc w10 _), hb.size, bgo hb (balloc _ _)⟩
theorem sgn_set (w8 w10 : World) (rs : Bs) (rh rn : Int) (rg : Bs) (rc : Int) (A1 : Option Addr) (k1 : Nat) (A2 : Option Addr) (k2 g : Nat) (bz : Box w10 g 25 [.slice none 0 0, .int .i64 0, .int .i64 0]) (t1 : SeesB w10 w10.heap.size (.slice A1 rs.length k1) rs) (t2 : SeesB w10 w10.heap.size (.slice A2 rg.length k2) rg) (hg : w8.heap.size ≤ g) (hb : Below w8.heap.size w8 w10) :
    SgnR w8 rs rh rn rg rc (.pointer (some ⟨g, 0, none⟩)) (.slice A2 rg.length k2) (.int .i64 rc) (((w10.setCell ⟨g, 0, none⟩ (.slice A1 rs.length k1)).setCell ⟨g, 1, none⟩ (.int .i64 rh)).setCell ⟨g, 2, none⟩ (.int .i64 rn)) := by
  have y := ((bz.set 0 (.slice A1 rs.length k1)).set 1 (.int .i64 rh)).set 2 (.int .i64 rn)
  simp only [List.set_cons_zero, List.set_cons_succ] at y
  have hgr := ggo (ggo (setCell_grown w10 g 0 (.slice A1 rs.length k1)) (setCell_grown _ g 1 (.int .i64 rh))) (setCell_grown _ g 2 (.int .i64 rn))
  have hz : (((w10.setCell ⟨g, 0, none⟩ (.slice A1 rs.length k1)).setCell ⟨g, 1, none⟩ (.int .i64 rh)).setCell ⟨g, 2, none⟩ (.int .i64 rn)).heap.size = w10.heap.size := by simp [World.setCell]
  exact ⟨g, A1, k1, A2, k2, rfl, rfl, rfl, y, by rw [hz]; exact t1.over (Nat.le_refl _) bz (noBL3' (NoB.s _ _ _) (NoB.i _) (NoB.i _)) hgr, by rw [hz]; exact t2.over (Nat.le_refl _) bz (noBL3' (NoB.s _ _ _) (NoB.i _) (NoB.i _)) hgr, hg, below_set3 hb hg _ _ _⟩
end
section
open Go.RowKit
set_option linter.unusedVariables false
attribute [local go_sem ↓] Go.wp_at_zero Go.wp_at_succ
theorem fits_any (B : Nat) (u : Value) (s : Bs) (w : World) (hu : SeesB w B u s) :
    Calls Tryz.prog 39 #[u] w fun e w' => e = .returned (.bool (fitsG s)) ∧ w' = w := by
  obtain ⟨A, c, rfl, hc1, hc2⟩ := hu.mk_
  by_cases g0 : s.length = 0
  · have hf : Hid (fitsG s = false) := by show _ = _; unfold fitsG; simp [g0]
    have i0 : ¬ (0 : Int) < (s.length : Int) := by omega
    clear hu
    go_enter Tryz.func39, Tryz.ntmps39
    go_wp2_with fail
    go_ret
    exact ⟨by rw [hf.out]; rfl, rfl⟩
  have hh : headN s ≤ 255 := by have := (s.getD 0 0).toNat_lt; unfold headN; omega
  obtain ⟨g, o, rfl, hgB, hcell⟩ := hu.at_ (by omega)
  have x0 : w.cell? ⟨g, o, none⟩ = some (.int .u8 (headN s : Int)) := hcell 0 (by omega)
  have i0 : (0 : Int) < (s.length : Int) := by omega
  by_cases g1 : headN s ≤ 6
  · have i1 : (headN s : Int) ≤ 6 := by omega
    have hlen := fun W => tlength_any (headN s) W hh
    have hsn : 565 + 32 * headN s = sizeN s := rfl
    rw [hsn] at hlen
    have hf : Hid (fitsG s = decide (s.length = sizeN s)) := by show _ = _; unfold fitsG; simp [g1]; omega
    have iw : IntKind.i64.wrap (headN s : Int) = (headN s : Int) := by rw [IntKind.wrap_i64]; omega
    generalize headN s = h at *
    generalize sizeN s = z at *
    replace hlen := Lib.hid hlen
    clear hu hcell hsn
    go_enter Tryz.func39, Tryz.ntmps39
    go_wp2_with fail
    refine (hlen.out _).mono ?_
    rintro e w0 ⟨rfl, hw0⟩
    obtain rfl := hw0.symm
    dsimp only
    go_wp2_with fail
    go_ret
    have h8 : decide (((s.length : Nat) : Int) = (z : Int)) = decide (s.length = z) := by
      by_cases h9 : s.length = z
      · rw [decide_eq_true h9, decide_eq_true (by omega)]
      · rw [decide_eq_false h9, decide_eq_false (by omega)]
    exact ⟨by rw [hf.out, ← h8]; rfl, rfl⟩
  · have i1 : ¬ (headN s : Int) ≤ 6 := by omega
    have hf : Hid (fitsG s = false) := by show _ = _; unfold fitsG; simp; omega
    generalize headN s = h at *
    clear hu hcell
    go_enter Tryz.func39, Tryz.ntmps39
    go_wp2_with fail
    go_ret
    exact ⟨by rw [hf.out]; rfl, rfl⟩
def DNamesP (w : World) (e : Ending) (w' : World) : Prop := ∃ v v2, e = .returned (.tuple #[v, v2]) ∧ SeesR w' w'.heap.size v 1 3 (nameS names3) ∧ SeesR w' w'.heap.size v2 1 2 (nameS namesA) ∧ Below w.heap.size w w'
theorem names3_lit (W : World) : SeesR (W.alloc (.cells #[.string ⟨#[75, 69, 89, 83]⟩, .string ⟨#[83, 73, 71, 78]⟩, .string ⟨#[83, 80, 65, 78]⟩] 9)) (W.heap.size + 1) (.slice (some ⟨W.heap.size, 0, none⟩) 3 3) 1 3 (nameS names3) := names_lit W 9 names3 (by simp [names3])
theorem namesA_lit (W : World) : SeesR (W.alloc (.cells #[.string ⟨#[65, 78, 83, 87]⟩, .string ⟨#[67, 69, 82, 84]⟩] 9)) (W.heap.size + 1) (.slice (some ⟨W.heap.size, 0, none⟩) 2 2) 1 2 (nameS namesA) := names_lit W 9 namesA (by simp [namesA])
theorem dnames_any (w : World) : Calls Tryz.prog 20 #[] w (DNamesP w) := by
  have h1 := names3_lit w
  have b1 := balloc w (.cells #[.string ⟨#[75, 69, 89, 83]⟩, .string ⟨#[83, 73, 71, 78]⟩, .string ⟨#[83, 80, 65, 78]⟩] 9)
  have b2 := balloc (w.alloc (.cells #[.string ⟨#[75, 69, 89, 83]⟩, .string ⟨#[83, 73, 71, 78]⟩, .string ⟨#[83, 80, 65, 78]⟩] 9)) (.cells #[.string ⟨#[65, 78, 83, 87]⟩, .string ⟨#[67, 69, 82, 84]⟩] 9)
  have h2 := namesA_lit (w.alloc (.cells #[.string ⟨#[75, 69, 89, 83]⟩, .string ⟨#[83, 73, 71, 78]⟩, .string ⟨#[83, 80, 65, 78]⟩] 9))
  rw [World.size_alloc] at h2
  have h3 := (h1.below (by rw [World.size_alloc] at b2; exact b2)).more (B' := w.heap.size + 1 + 1) (by omega)
  have hb := Lib.hid (bgo b1 b2)
  replace h2 := Lib.hid h2
  replace h3 := Lib.hid h3
  clear b1 b2 h1
  go_enter Tryz.func20, Tryz.ntmps20
  go_wp2_with fail
  go_returns
  refine ⟨_, _, rfl, ?_, ?_, hb.out⟩
  · rw [World.size_alloc, World.size_alloc]; exact h3.out
  · rw [World.size_alloc, World.size_alloc]; exact h2.out
def DEncP (p : Bs) (f t : Int) (s : Bs) (w : World) (e : Ending) (w' : World) : Prop := ∃ v, e = .returned (.tuple #[v, .int .i64 (dencC p f t s)]) ∧ OwnB w' w.heap.size v (dencB p f t s) ∧ Below w.heap.size w w'
theorem denc_bad {p s : Bs} {f t c : Int} (h : dencC p f t s = c) (hc : c ≠ 0) {w w' : World} {e : Ending} (he : e = .returned (.tuple #[.slice none 0 0, .int .i64 c])) (hb : Below w.heap.size w w') : DEncP p f t s w e w' := by
  refine ⟨.slice none 0 0, by rw [h]; exact he, ?_, hb⟩
  rw [dencB, if_neg (by rw [h]; exact hc)]
  exact World.ownsRow_nil _ _ _ 1
theorem denc_ok {p s : Bs} {f t : Int} (h : dencC p f t s = 0) {w W w' : World} {v : Value} {e : Ending} (he : e = .returned (.tuple #[v, .int .i64 (encC (dtags p f t s))])) (h1 : OwnB w' W.heap.size v (encT (dtags p f t s))) (hW : w.heap.size ≤ W.heap.size) (hb : Below w.heap.size w w') : DEncP p f t s w e w' := by
  obtain ⟨e1, e2⟩ := dtags_enc p f t s h
  rw [e1] at he
  rw [e2] at h1
  exact ⟨v, by rw [h]; exact he, h1.mono hW, hb⟩
set_option maxRecDepth 100000 in
set_option maxHeartbeats 4000000 in
theorem dencode_any (B : Nat) (u u2 : Value) (p s : Bs) (f t : Int) (w : World) (hu : SeesB w B u p) (hu2 : SeesB w B u2 s) (hB : B ≤ w.heap.size) (hp : p.length ≤ 1048576) (hs : s.length ≤ 1048576) :
    Calls Tryz.prog 16 #[.agg #[u, .int .i64 f, .int .i64 t, u2]] w (DEncP p f t s w) := by
  obtain ⟨Ap, cp, rfl, -, -⟩ := hu.mk_
  obtain ⟨As, cs, rfl, -, -⟩ := hu2.mk_
  have hal := balloc w (.cells #[.slice Ap p.length cp, .int .i64 f, .int .i64 t, .slice As s.length cs] 27)
  have hx := Box.new w 27 [.slice Ap p.length cp, .int .i64 f, .int .i64 t, .slice As s.length cs]
  change Box (w.alloc (.cells #[.slice Ap p.length cp, .int .i64 f, .int .i64 t, .slice As s.length cs] 27)) _ _ _ at hx
  have sp := seesB_of hu hB hal
  have ss := seesB_of hu2 hB hal
  have hd : Hid (dencC p f t s = if p.length = 32 then (if vS f t && fitsG s then 0 else 3) else 5) := rfl
  have y0 := hx.cell 0
  have y1 := hx.cell 1
  have y2 := hx.cell 2
  have y3 := hx.cell 3
  simp only [List.getElem?_cons_zero, List.getElem?_cons_succ] at y0 y1 y2 y3
  clear hu hu2
  by_cases hp32 : p.length = 32
  · have ip : ((p.length : Int) != 32) = false := by simp; omega
    have hwn := Lib.hid (fun W => dwindow_any Ap p.length cp As s.length cs f t W)
    have hva := Lib.hid (fun W => valid_any f t W)
    replace hal := Lib.hid hal
    cases hv : vS f t with
    | false =>
      have hC : Hid (dencC p f t s = 3) := by show _ = _; rw [hd.out, if_pos hp32, hv]; rfl
      rw [hv] at hva
      replace hp32 := Lib.hid hp32
      replace hv := Lib.hid hv
      clear sp ss hd
      go_enter Tryz.func16, Tryz.ntmps16
      go_upto_region 1 with (fail)
      generalize w.alloc (.cells #[.slice Ap p.length cp, .int .i64 f, .int .i64 t, .slice As s.length cs] 27) = W0 at *
      generalize hgg : w.heap.size = g at hx y0 y1 y2 y3 hal ⊢
      replace hgg := Lib.hid hgg
      go_wp2_with fail
      refine (hwn.out _).mono ?_
      rintro e w1 ⟨rfl, hb1⟩
      dsimp only
      go_wp2_with fail
      refine (hva.out _).mono ?_
      rintro e w2 ⟨rfl, hb2⟩
      dsimp only
      go_wp2_with fail
      go_returns
      exact denc_bad hC.out (by decide) rfl (bgoD hal.out (bgo hb1 hb2) hgg.out.symm)
    | true =>
      rw [hv] at hva
      have hC : Hid (dencC p f t s = if fitsG s then 0 else 3) := by show _ = _; rw [hd.out, if_pos hp32, hv]; rfl
      have hft := Lib.hid (fun W (hW : Below (w.alloc (.cells #[.slice Ap p.length cp, .int .i64 f, .int .i64 t, .slice As s.length cs] 27)).heap.size (w.alloc (.cells #[.slice Ap p.length cp, .int .i64 f, .int .i64 t, .slice As s.length cs] 27)) W) => fits_any _ _ s W (seesB_of ss (Nat.le_refl _) hW))
      have hv' := Lib.hid hv
      replace hp32 := Lib.hid hp32
      replace sp := Lib.hid sp
      replace ss := Lib.hid ss
      clear hd
      go_enter Tryz.func16, Tryz.ntmps16
      go_upto_region 1 with (fail)
      generalize w.alloc (.cells #[.slice Ap p.length cp, .int .i64 f, .int .i64 t, .slice As s.length cs] 27) = W0 at *
      generalize hgg : w.heap.size = g at hx y0 y1 y2 y3 hal ⊢
      replace hgg := Lib.hid hgg
      go_wp2_with fail
      refine (hwn.out _).mono ?_
      rintro e w1 ⟨rfl, hb1⟩
      dsimp only
      go_wp2_with fail
      refine (hva.out _).mono ?_
      rintro e w2 ⟨rfl, hb2⟩
      have hb02 := bgo hb1 hb2
      have hx2 := hx.below hb02
      have z3 := hx2.cell 3
      simp only [List.getElem?_cons_zero, List.getElem?_cons_succ] at z3
      clear y0 y1 y2 y3
      dsimp only
      go_wp2_with fail
      refine (hft.out _ hb02).mono ?_
      rintro e w3 ⟨rfl, hw3⟩
      obtain rfl := hw3.symm
      clear hft z3
      dsimp only
      cases hF : fitsG s with
      | false =>
        rw [hF] at hC
        replace hF := Lib.hid hF
        go_wp2_with fail
        go_returns
        exact denc_bad hC.out (by decide) rfl (bgoD hal.out hb02 hgg.out.symm)
      | true =>
        rw [hF] at hC
        replace hF := Lib.hid hF
        have hsp := Lib.hid (fun W => span_any f t W)
        have hnm := Lib.hid (fun W => dnames_any W)
        have hwn2 := hwn
        have q0 : w2.cell? ⟨g, 0, none⟩ = some (.slice Ap p.length cp) := hx2.cell 0
        have q1 : w2.cell? ⟨g, 1, none⟩ = some (.int .i64 f) := hx2.cell 1
        have q2 : w2.cell? ⟨g, 2, none⟩ = some (.int .i64 t) := hx2.cell 2
        have q3 : w2.cell? ⟨g, 3, none⟩ = some (.slice As s.length cs) := hx2.cell 3
        go_wp2_with fail
        refine (hwn2.out _).mono ?_
        rintro e w4 ⟨rfl, hb4⟩
        clear q0 q1 q2 q3
        dsimp only
        go_wp2_with fail
        refine (hsp.out _).mono ?_
        rintro e w5 ⟨v5, rfl, o5, hb5⟩
        rw [show spanL f t = spanB f t by rw [spanL, if_pos hv'.out]] at o5
        obtain ⟨A5, c5, rfl, -, -⟩ := o5.sees.mk_
        dsimp only
        go_wp2_with fail
        refine (hnm.out _).mono ?_
        rintro e w6 ⟨v6, v6', rfl, n6, -, hb6⟩
        obtain ⟨A6, c6, rfl, -, -⟩ := n6.mk_
        have hb25 := bgo hb4 hb5
        have hb26 := bgo hb25 hb6
        have s5 := seesB_of o5.sees (Nat.le_refl _) hb6
        have hb06 := bgo hb02 hb26
        have hx6 := hx.below hb06
        have sp6 := seesB_of sp.out (Nat.le_refl _) hb06
        have ss6 := seesB_of ss.out (Nat.le_refl _) hb06
        have K : Hid (∀ W : World, Below w6.heap.size w6 W → W.cell? ⟨g, 0, none⟩ = some (.slice Ap p.length cp) ∧ W.cell? ⟨g, 3, none⟩ = some (.slice As s.length cs)) := fun W hW => ⟨(hx6.below hW).cell 0, (hx6.below hW).cell 3⟩
        have hpd := Lib.hid (padded_any _ _ s w6.drew (seesB_of ss6 (Nat.le_refl _) (bdrew w6)) (Nat.le_refl _) hs)
        have hms := fun (W : World) (A7 : Option Addr) (c7 : Nat) (hW : Below w6.heap.size w6 W) (h7 : SeesB W W.heap.size (.slice A7 (pad4 s).length c7) (pad4 s)) =>
          message_any (W.alloc (.cells #[.slice Ap p.length cp, .slice A7 (pad4 s).length c7, .slice A5 (spanB f t).length c5] 23)).heap.size (.slice A6 3 c6) (.slice (some ⟨W.heap.size, 0, none⟩) 3 3) names3 [p, pad4 s, spanB f t] (W.alloc (.cells #[.slice Ap p.length cp, .slice A7 (pad4 s).length c7, .slice A5 (spanB f t).length c5] 23))
            ((n6.below (bgo hW (balloc W _))).more (bgo hW (balloc W _)).size)
            (seesL_lit W 23 (vs := [.slice Ap p.length cp, .slice A7 (pad4 s).length c7, .slice A5 (spanB f t).length c5]) ⟨seesB_of sp6 (Nat.le_refl _) hW, h7, seesB_of s5 (Nat.le_refl _) hW, trivial⟩ (by simp [maxLen]))
            (Nat.le_refl _) rfl (by simp [names3]) (by
              have h1 := pad4_len s
              have h2 := head_le s hF.out
              have h3 := hp32.out
              simp only [names3, List.zip_cons_cons, List.zip_nil_right, dataT, List.map_cons, List.map_nil, List.flatten_cons, List.flatten_nil, List.length_append, List.length_nil, spanB_len]
              omega)
        have hz : names3.zip [p, pad4 s, spanB f t] = dtags p f t s := rfl
        rw [hz] at hms
        have hsl := Lib.hid (spanB_len f t)
        generalize spanB f t = S at *
        generalize pad4 s = P at *
        replace hms := Lib.hid hms
        obtain ⟨x0, x3⟩ := K.out w6 (Below.refl _ _)
        have hfin := Lib.hid (bgo hb02 hb26)
        clear hb4 hb5 hb6 hb25 hb26 hb06 hx6 sp6 ss6 s5 o5 n6 hx hx2 hwn hwn2 hva hsp hnm sp ss hz
        dsimp only
        go_wp2_with fail
        go_region_held3 (fun W' : World => W'.cell? ⟨g, 0, none⟩ = some (.slice Ap p.length cp) ∧ W'.cell? ⟨g, 3, none⟩ = some (.slice As s.length cs))
          (first | (with_reducible exact K.out _ hb8) | (with_reducible exact K.out _ hb7) | exact K.out _ (by (repeat (first | exact Below.refl _ _ | (refine bgo ?_ (balloc _ _)) | (refine bgo ?_ (bdrew _)) | (refine bgo ?_ (by assumption))))) | (go_keep; done))
          (first
            | (go_at_call 21; (with_reducible refine (hms.out w7 A7 c7 hb7 s7).mono ?_); rintro e w8 ⟨v8, rfl, o8, hb8⟩
               obtain ⟨A8, c8, rfl, -, -⟩ := o8.sees.mk_
               have hsz := hb7.size
               replace hb8 := bgo (bgo hb7 (balloc w7 _)) hb8)
            | (go_at_call 41; (with_reducible refine hpd.out.mono ?_); rintro e w7 ⟨v7, rfl, o7, hb7⟩
               replace hb7 := bgo (bdrew w6) hb7
               have s7 := o7.sees
               obtain ⟨A7, c7, rfl, -, -⟩ := o7.sees.mk_))
        all_goals
          have hfin2 := bgo hfin.out hb8
          have hw7 : w.heap.size ≤ (w7.alloc (.cells #[.slice Ap p.length cp, .slice A7 P.length c7, .slice A5 S.length c5] 23)).heap.size := by
            have h1 := (bgoD hal.out hfin.out hgg.out.symm).size
            rw [World.size_alloc]
            omega
          clear x0 x3 K hms hpd o7 s7 hb7 hb8 hsz
          go_wp2_with fail
          go_returns
          exact denc_ok hC.out rfl o8 hw7 (bgoD hal.out hfin2 hgg.out.symm)
  · have ip : ((p.length : Int) != 32) = true := by simp; omega
    have hC : Hid (dencC p f t s = 5) := by show _ = _; rw [hd.out, if_neg hp32]
    clear sp ss hd y1 y2 y3 hp32
    go_enter Tryz.func16, Tryz.ntmps16
    go_wp2_with fail
    go_returns
    exact denc_bad hC.out (by decide) rfl hal
end
section
open Go.RowKit
set_option linter.unusedVariables false
attribute [local go_sem ↓] Go.wp_at_zero Go.wp_at_succ
def CutP (b : Bs) (w : World) (e : Ending) (w' : World) : Prop :=
  ∃ A n c s, e = .returned (.tuple #[.slice A n c, .bool (unpadG b).isSome]) ∧ SeesB w' w'.heap.size (.slice A n c) s ∧ s.length ≤ 4096 ∧ (∀ x, unpadG b = some x → s = x) ∧ Below w.heap.size w w'
theorem cutp_nil {b : Bs} (h : unpadG b = none) {w w' : World} {e : Ending} (he : e = .returned (.tuple #[.slice none 0 0, .bool false])) (hb : Below w.heap.size w w') : CutP b w e w' :=
  ⟨none, 0, 0, [], by rw [h]; exact he, SeesB.nil _ _, by simp, fun x hx => (by rw [h] at hx; cases hx), hb⟩
theorem cutp_no {b s : Bs} {A : Option Addr} {n c : Nat} (h : unpadG b = none) {w w' : World} {e : Ending} (he : e = .returned (.tuple #[.slice A n c, .bool false])) (hs : SeesB w' w'.heap.size (.slice A n c) s) (hl : s.length ≤ 4096) (hb : Below w.heap.size w w') : CutP b w e w' :=
  ⟨A, n, c, s, by rw [h]; exact he, hs, hl, fun x hx => (by rw [h] at hx; cases hx), hb⟩
theorem cutp_ok {b s : Bs} {A : Option Addr} {n c : Nat} (h : unpadG b = some s) {w w' : World} {e : Ending} (he : e = .returned (.tuple #[.slice A n c, .bool true])) (hs : SeesB w' w'.heap.size (.slice A n c) s) (hb : Below w.heap.size w w') : CutP b w e w' :=
  ⟨A, n, c, s, by rw [h]; exact he, hs, by have := (unpad_spec h).1; have := head_le s this; omega, fun x hx => (by rw [h] at hx; cases hx; rfl), hb⟩
set_option maxRecDepth 100000 in
theorem cut2_any (B : Nat) (u : Value) (b : Bs) (w : World) (hu : SeesB w B u b) (hB : B ≤ w.heap.size) (hl : b.length ≤ 4096) :
    Calls Tryz.prog 56 #[u] w (CutP b w) := by
  obtain ⟨A, c, rfl, hc1, hc2⟩ := hu.mk_
  by_cases g0 : b.length = 0
  · have hno := Lib.hid (unpad_no b (.inl g0))
    have i0 : (b.length : Int) = 0 := by omega
    go_enter Tryz.func56, Tryz.ntmps56
    go_wp2_with fail
    go_returns
    exact cutp_nil hno.out rfl (Below.refl _ _)
  have hh : headN b ≤ 255 := by have := (b.getD 0 0).toNat_lt; unfold headN; omega
  obtain ⟨g, o, rfl, hgB, hcell⟩ := hu.at_ (by omega)
  have x0 : w.cell? ⟨g, o, none⟩ = some (.int .u8 (headN b : Int)) := hcell 0 (by omega)
  have i0 : ¬ (b.length : Int) = 0 := by omega
  have i9 : (0 : Int) < (b.length : Int) := by omega
  by_cases g1 : 6 < headN b
  · have hno := Lib.hid (unpad_no b (.inr (.inl g1)))
    have i1 : (6 : Int) < (headN b : Int) := by omega
    generalize headN b = h at *
    go_enter Tryz.func56, Tryz.ntmps56
    go_wp2_with fail
    go_returns
    exact cutp_nil hno.out rfl (Below.refl _ _)
  have i1 : ¬ (6 : Int) < (headN b : Int) := by omega
  have iw : IntKind.i64.wrap (headN b : Int) = (headN b : Int) := by rw [IntKind.wrap_i64]; omega
  have hlen := fun W => tlength_any (headN b) W hh
  have hsn : 565 + 32 * headN b = sizeN b := rfl
  rw [hsn] at hlen
  by_cases g2 : b.length < sizeN b
  · have hno := Lib.hid (unpad_no b (.inr (.inr g2)))
    have i2 : (b.length : Int) < (sizeN b : Int) := by omega
    generalize headN b = h at *
    generalize sizeN b = z at *
    replace hlen := Lib.hid hlen
    go_enter Tryz.func56, Tryz.ntmps56
    go_wp2_with fail
    refine (hlen.out _).mono ?_
    rintro e w0 ⟨rfl, rfl⟩
    dsimp only
    go_wp2_with fail
    go_returns
    exact cutp_nil hno.out rfl (Below.refl _ _)
  have i2 : ¬ (b.length : Int) < (sizeN b : Int) := by omega
  have hug : unpadG b = if pad4 (b.take (sizeN b)) = b then some (b.take (sizeN b)) else none := by unfold unpadG; rw [if_neg (by omega)]
  have hs := hu.take (m := sizeN b) (c' := c) (by omega) (by omega) hc2
  have hl2 : (b.take (sizeN b)).length = sizeN b := by rw [List.length_take]; omega
  have i3 : (sizeN b : Int) ≤ (c : Int) := by omega
  have hcl := Lib.hid (fun W (hW : Below w.heap.size w W) => bclone_any B _ (b.take (sizeN b)) W (hs.below (hW.mono hB)) (Nat.le_trans hB hW.size) (by omega))
  have hpd := Lib.hid (fun W (hW : Below w.heap.size w W) => padded_any B _ (b.take (sizeN b)) W (hs.below (hW.mono hB)) (Nat.le_trans hB hW.size) (by omega))
  have heq := Lib.hid (fun W v (hW : Below w.heap.size w W) (hv : SeesB W W.heap.size v (pad4 (b.take (sizeN b)))) => equal_any _ _ v _ (pad4 (b.take (sizeN b))) b W hv (hu.below (hW.mono hB)))
  clear hs hu
  generalize b.take (sizeN b) = s at *
  generalize headN b = h at *
  generalize sizeN b = z at *
  have iz : (0 : Int) ≤ (z : Int) := by omega
  replace hlen := Lib.hid hlen
  replace hl2 := Lib.hid hl2
  replace hug := Lib.hid hug
  go_enter Tryz.func56, Tryz.ntmps56
  go_wp2_with fail
  refine (hlen.out _).mono ?_
  rintro e w0 ⟨rfl, hw0⟩
  obtain rfl := hw0.symm
  dsimp only
  go_wp2_with fail
  refine (hlen.out _).mono ?_
  rintro e w0 ⟨rfl, hw0⟩
  obtain rfl := hw0.symm
  dsimp only
  go_wp2_with fail
  refine (hcl.out _ (Below.refl _ _)).mono ?_
  rintro e w1 ⟨v1, rfl, h1, hb1⟩
  obtain ⟨A1, c1, rfl, -, -⟩ := h1.sees.mk_
  dsimp only
  go_wp2_with fail
  refine (hpd.out _ hb1).mono ?_
  rintro e w2 ⟨v2, rfl, h2, hb2⟩
  have hb3 := bgo hb1 hb2
  have hq := Lib.hid (heq.out w2 v2 hb3 h2.sees)
  have h3 := (h1.below hb2).sees
  replace h1 := Lib.hid h1
  replace h2 := Lib.hid h2
  dsimp only
  go_wp2_with fail
  refine hq.out.mono ?_
  rintro e w0 ⟨rfl, hw0⟩
  obtain rfl := hw0.symm
  dsimp only
  by_cases g3 : pad4 s = b
  · have hu9 : Hid (unpadG b = some s) := by show _ = _; rw [hug.out, if_pos g3]
    have hq9 : (pad4 s == b) = true := by simp [g3]
    generalize (pad4 s == b) = Q at *
    subst hq9
    replace g3 := Lib.hid g3
    go_wp2_with fail
    go_returns
    exact cutp_ok hu9.out rfl h3 hb3
  · have hu9 : Hid (unpadG b = none) := by show _ = _; rw [hug.out, if_neg g3]
    have hq9 : (pad4 s == b) = false := by simp [g3]
    generalize (pad4 s == b) = Q at *
    subst hq9
    replace g3 := Lib.hid g3
    go_wp2_with fail
    go_returns
    exact cutp_no hu9.out rfl h3 (by have := hl2.out; omega) hb3
end
section
open Go.RowKit
set_option linter.unusedVariables false
set_option linter.unusedSimpArgs false
attribute [local go_sem ↓] Go.wp_at_zero Go.wp_at_succ
def delP (b : Bs) : Bs := if delC b = 0 then datN b 0 else []
def delS (b : Bs) : Bs := if delC b = 0 then (unpadG (datN b 1)).getD [] else []
def delLo (b : Bs) : Int := if delC b = 0 then unLo (datN b 2) else 0
def delHi (b : Bs) : Int := if delC b = 0 then unHi (datN b 2) else 0
def DDecP (b : Bs) (w : World) (e : Ending) (w' : World) : Prop :=
  ∃ v1 v2, e = .returned (.tuple #[.agg #[v1, .int .i64 (delLo b), .int .i64 (delHi b), v2], .int .i64 (delC b)]) ∧ SeesB w' w'.heap.size v1 (delP b) ∧ SeesB w' w'.heap.size v2 (delS b) ∧ Below w.heap.size w w'
theorem ddec_bad {b : Bs} {c : Int} (h : delC b = c) (hc : c ≠ 0) {w w' : World} {e : Ending} (he : e = .returned (.tuple #[.agg #[.slice none 0 0, .int .i64 0, .int .i64 0, .slice none 0 0], .int .i64 c])) (hb : Below w.heap.size w w') : DDecP b w e w' := by
  have h0 : ¬ delC b = 0 := by rw [h]; exact hc
  refine ⟨.slice none 0 0, .slice none 0 0, ?_, ?_, ?_, hb⟩
  · rw [delLo, delHi, if_neg h0, if_neg h0, h]; exact he
  · rw [delP, if_neg h0]; exact SeesB.nil _ _
  · rw [delS, if_neg h0]; exact SeesB.nil _ _
theorem ddec_ok {b s : Bs} {v1 v2 : Value} {lo hi : Int} (h : delC b = 0) (hs : unpadG (datN b 1) = some s) (hlo : unLo (datN b 2) = lo) (hhi : unHi (datN b 2) = hi) {w w' : World} {e : Ending} (he : e = .returned (.tuple #[.agg #[v1, .int .i64 lo, .int .i64 hi, v2], .int .i64 0])) (h1 : SeesB w' w'.heap.size v1 (datN b 0)) (h2 : SeesB w' w'.heap.size v2 s) (hb : Below w.heap.size w w') : DDecP b w e w' := by
  refine ⟨v1, v2, ?_, ?_, ?_, hb⟩
  · rw [delLo, delHi, if_pos h, if_pos h, h, hlo, hhi]; exact he
  · rw [delP, if_pos h]; exact h1
  · rw [delS, if_pos h, hs]; exact h2
theorem box_set4 {W : World} {g : Nat} {T : TypeId} {a0 a1 a2 a3 : Value} (h : Box W g T [a0, a1, a2, a3]) (x0 x1 x2 x3 : Value) : Box ((((W.setCell ⟨g, 0, none⟩ x0).setCell ⟨g, 1, none⟩ x1).setCell ⟨g, 2, none⟩ x2).setCell ⟨g, 3, none⟩ x3) g T [x0, x1, x2, x3] := by
  have y := (((h.set 0 x0).set 1 x1).set 2 x2).set 3 x3
  simpa only [List.set_cons_zero, List.set_cons_succ] using y
theorem bset4 {w W : World} {g : Nat} (h : Below w.heap.size w W) (hg : w.heap.size ≤ g) (x0 x1 x2 x3 : Value) : Below w.heap.size w ((((W.setCell ⟨g, 0, none⟩ x0).setCell ⟨g, 1, none⟩ x1).setCell ⟨g, 2, none⟩ x2).setCell ⟨g, 3, none⟩ x3) :=
  (((h.setCell (p := ⟨g, 0, none⟩) hg _).setCell (p := ⟨g, 1, none⟩) hg _).setCell (p := ⟨g, 2, none⟩) hg _).setCell (p := ⟨g, 3, none⟩) hg _
theorem sees_set4 {W : World} {g : Nat} {T : TypeId} {a0 a1 a2 a3 u : Value} {l : Bs} (h : Box W g T [a0, a1, a2, a3]) (n : NoByte [a0, a1, a2, a3]) (x0 x1 x2 x3 : Value) (hs : SeesB W W.heap.size u l) : SeesB ((((W.setCell ⟨g, 0, none⟩ x0).setCell ⟨g, 1, none⟩ x1).setCell ⟨g, 2, none⟩ x2).setCell ⟨g, 3, none⟩ x3) ((((W.setCell ⟨g, 0, none⟩ x0).setCell ⟨g, 1, none⟩ x1).setCell ⟨g, 2, none⟩ x2).setCell ⟨g, 3, none⟩ x3).heap.size u l := by
  have hz : ((((W.setCell ⟨g, 0, none⟩ x0).setCell ⟨g, 1, none⟩ x1).setCell ⟨g, 2, none⟩ x2).setCell ⟨g, 3, none⟩ x3).heap.size = W.heap.size := by simp [World.setCell]
  rw [hz]
  exact hs.over (Nat.le_refl _) h n (ggo (ggo (ggo (setCell_grown W g 0 x0) (setCell_grown _ g 1 x1)) (setCell_grown _ g 2 x2)) (setCell_grown _ g 3 x3))
/-- What the last region of Decode leaves: the delegation's block. -/
def D12 (w6 : World) (x0 : Value) (lo hi : Int) (x3 v12 : Value) (W : World) : Prop :=
  ∃ g, v12 = .pointer (some ⟨g, 0, none⟩) ∧ Box W g 27 [x0, .int .i64 lo, .int .i64 hi, x3] ∧ w6.heap.size ≤ g ∧ Below w6.heap.size w6 W
theorem d12_new (w6 : World) (x0 : Value) (lo hi : Int) (x3 : Value) : D12 w6 x0 lo hi x3 (.pointer (some ⟨w6.heap.size, 0, none⟩)) (w6.alloc (.cells #[x0, .int .i64 lo, .int .i64 hi, x3] 27)) :=
  ⟨_, rfl, Box.new w6 27 [x0, .int .i64 lo, .int .i64 hi, x3], Nat.le_refl _, balloc _ _⟩
theorem d12_drew {w6 W : World} {x0 : Value} {lo hi : Int} {x3 v12 : Value} (h : D12 w6 x0 lo hi x3 v12 W) : D12 w6 x0 lo hi x3 v12 W.drew := by
  obtain ⟨g, h1, h2, h3, h4⟩ := h
  exact ⟨g, h1, h2, h3, h4.drew⟩
theorem d12_set (w6 : World) (x0 : Value) (lo hi : Int) (x3 : Value) : D12 w6 x0 lo hi x3 (.pointer (some ⟨w6.heap.size, 0, none⟩)) (((((w6.alloc (.cells #[.slice none 0 0, .int .i64 0, .int .i64 0, .slice none 0 0] 27)).setCell ⟨w6.heap.size, 0, none⟩ x0).setCell ⟨w6.heap.size, 1, none⟩ (.int .i64 lo)).setCell ⟨w6.heap.size, 2, none⟩ (.int .i64 hi)).setCell ⟨w6.heap.size, 3, none⟩ x3) :=
  ⟨_, rfl, box_set4 (Box.new w6 27 [.slice none 0 0, .int .i64 0, .int .i64 0, .slice none 0 0]) x0 (.int .i64 lo) (.int .i64 hi) x3, Nat.le_refl _, bset4 (balloc w6 _) (Nat.le_refl _) _ _ _ _⟩
theorem noZ4 : NoByte [.slice none 0 0, .int .i64 0, .int .i64 0, .slice none 0 0] := noBL4 (NoB.s none 0 0) (NoB.i 0) (NoB.i 0) (NoB.s none 0 0)
theorem dat_get (b : Bs) (k : Nat) : ((decT b).map (·.2)).getD k [] = datN b k := by
  unfold datN
  rw [List.getD_eq_getElem?_getD, List.getD_eq_getElem?_getD, List.getElem?_map]
  cases (decT b)[k]? <;> rfl
theorem delC_err {b : Bs} (h : decC b ≠ 0) : delC b = decC b := by unfold delC; rw [if_neg h]
theorem delC_no {b : Bs} (h : decC b = 0) (h2 : delOk b = false) : delC b = 3 := by unfold delC; rw [if_pos h, h2]; rfl
theorem delC_yes {b : Bs} (h : decC b = 0) (h2 : delOk b = true) : delC b = 0 := by unfold delC; rw [if_pos h, h2]; rfl
end
section
open Go.RowKit
set_option linter.unusedVariables false
theorem boxT2 {W : World} {g : Nat} {T : TypeId} {a b : Value} (x : Box W g T [a, b]) : W.cell? ⟨g, 0, none⟩ = some a ∧ W.cell? ⟨g, 1, none⟩ = some b := ⟨x.cell 0, x.cell 1⟩
/-- A span inside of another one. -/
def inS (lo hi f t : Int) : Bool := vS lo hi && (vS f t && (decide (f ≤ lo) && decide (hi ≤ t)))
/-- Behind the delegation: the answer and the window. -/
def dver2C (n a : Bs) (p : Bs) (f t : Int) : Int := if bverC p n a = 0 then (if inS (bverLo p n a) (bverHi p n a) f t = true then 0 else 25) else bverC p n a
/-- Behind the tags: the delegation. -/
def dver1C (l n a c : Bs) : Int :=
  if delC c = 0 then (if dcheckC l (delP c) (delLo c) (delHi c) (delS c) = 0 then dver2C n a (delP c) (delLo c) (delHi c) else dcheckC l (delP c) (delLo c) (delHi c) (delS c)) else delC c
def dverC (l n b : Bs) : Int := if decC b = 0 then (if decide ((decT b).map (·.1) = namesA) = true then dver1C l n (datN b 0) (datN b 1) else 3) else decC b
def dverLo (l n b : Bs) : Int := if dverC l n b = 0 then bverLo (delP (datN b 1)) n (datN b 0) else 0
def dverHi (l n b : Bs) : Int := if dverC l n b = 0 then bverHi (delP (datN b 1)) n (datN b 0) else 0
def DVerP (l n b : Bs) (w : World) (e : Ending) (w' : World) : Prop := e = .returned (.tuple #[.agg #[.int .i64 (dverLo l n b), .int .i64 (dverHi l n b)], .int .i64 (dverC l n b)]) ∧ Below w.heap.size w w'
theorem dver_bad {l n b : Bs} {c : Int} (h : dverC l n b = c) (hc : c ≠ 0) {w w' : World} {e : Ending} (he : e = .returned (.tuple #[.agg #[.int .i64 0, .int .i64 0], .int .i64 c])) (hb : Below w.heap.size w w') : DVerP l n b w e w' := by
  refine ⟨?_, hb⟩
  rw [he, dverLo, dverHi, h, if_neg hc, if_neg hc]
theorem dver_ok {l n b : Bs} {lo hi : Int} (h : dverC l n b = 0) (h1 : bverLo (delP (datN b 1)) n (datN b 0) = lo) (h2 : bverHi (delP (datN b 1)) n (datN b 0) = hi) {w w' : World} {e : Ending} (he : e = .returned (.tuple #[.agg #[.int .i64 lo, .int .i64 hi], .int .i64 0])) (hb : Below w.heap.size w w') : DVerP l n b w e w' := by
  refine ⟨?_, hb⟩
  rw [he, dverLo, dverHi, h, if_pos rfl, if_pos rfl, h1, h2]
end
section
open Go Go.RowKit
set_option linter.unusedVariables false
set_option linter.unusedSimpArgs false
attribute [local go_sem ↓] Go.wp_at_zero Go.wp_at_succ
theorem box_set3 {W : World} {g : Nat} {T : TypeId} {a b c : Value} (h : Box W g T [a, b, c]) (x y z : Value) : Box (((W.setCell ⟨g, 0, none⟩ x).setCell ⟨g, 1, none⟩ y).setCell ⟨g, 2, none⟩ z) g T [x, y, z] := by
  have k := ((h.set 0 x).set 1 y).set 2 z
  simpa only [List.set_cons_zero, List.set_cons_succ] using k
theorem sees_set3 {W : World} {g : Nat} {T : TypeId} {a b c u : Value} {l : Bs} (h : Box W g T [a, b, c]) (n : NoByte [a, b, c]) (x y z : Value) (hs : SeesB W W.heap.size u l) : SeesB (((W.setCell ⟨g, 0, none⟩ x).setCell ⟨g, 1, none⟩ y).setCell ⟨g, 2, none⟩ z) (((W.setCell ⟨g, 0, none⟩ x).setCell ⟨g, 1, none⟩ y).setCell ⟨g, 2, none⟩ z).heap.size u l := by
  have hz : (((W.setCell ⟨g, 0, none⟩ x).setCell ⟨g, 1, none⟩ y).setCell ⟨g, 2, none⟩ z).heap.size = W.heap.size := by simp [World.setCell]
  rw [hz]
  exact hs.over (Nat.le_refl _) h n (ggo (ggo (setCell_grown W g 0 x) (setCell_grown _ g 1 y)) (setCell_grown _ g 2 z))
theorem own_set3 {W : World} {g base : Nat} {T : TypeId} {a b c u : Value} {ls : List Bs} (h : Box W g T [a, b, c]) (hg : g < base) (ha : NoB a) (hb : NoB b) (hc : NoB c) (x y z : Value) (hx : NoB x) (hy : NoB y) (hs : OwnL W base u ls) : OwnL (((W.setCell ⟨g, 0, none⟩ x).setCell ⟨g, 1, none⟩ y).setCell ⟨g, 2, none⟩ z) base u ls := by
  have h1 := h.set 0 x
  have h2 := h1.set 1 y
  simp only [List.set_cons_zero, List.set_cons_succ] at h1 h2
  exact ((hs.poke hg h (noBL3' ha hb hc)).poke hg h1 (noBL3' hx hb hc)).poke hg h2 (noBL3' hx hy hc)
theorem lit13_mid (W : World) (o : Obj) (C : Array Value) (n c : Nat) (hC : C.size = n) : (convert 23 23 (.slice (some ⟨W.heap.size, 0, none⟩) n c)).run Tryz.prog ((W.alloc (.cells C 5)).alloc o) = .ok (.slice (some ⟨W.heap.size, 0, none⟩) n c) ((W.alloc (.cells C 5 (n, n + 1))).alloc o) := by
  have hsh : ((W.alloc (.cells C 5)).alloc o).shape? W.heap.size = some (5, C.size) := by
    have : ((W.alloc (.cells C 5)).alloc o).heap[W.heap.size]? = some (.cells C 5) := by
      show ((W.heap.push (.cells C 5)).push o)[W.heap.size]? = _
      rw [Array.getElem?_push, Array.getElem?_push]
      simp
    unfold World.shape?
    rw [this]
  have hfr : ∀ (k : Nat), ((W.alloc (.cells C 5)).alloc o).freeze ⟨W.heap.size, k, none⟩ 1 = (W.alloc (.cells C 5 (k, k + 1))).alloc o := fun k => by
    have hm : ∀ (a : Array Obj) (x y : Obj) (f : Obj → Obj), ((a.push x).push y).modify a.size f = (a.push (f x)).push y := by
      intro a x y f
      apply Array.ext
      · simp
      · intro i h1 h2
        simp only [Array.getElem_modify, Array.getElem_push, Array.size_push]
        by_cases h : a.size = i
        · subst h
          simp
        · by_cases h3 : i < a.size
          · have h4 : i < a.size + 1 := by omega
            simp [h, h3, h4]
          · have h4 : ¬ i < a.size + 1 := by omega
            simp [h, h3, h4]
    unfold World.freeze
    rw [if_neg (by decide)]
    show ({ (W.alloc (.cells C 5)).alloc o with heap := ((W.heap.push (.cells C 5)).push o).modify W.heap.size _ } : World) = _
    rw [hm]
    rfl
  subst hC
  simp [convert, run_underlying Tryz.underlying23, run_underlying Tryz.underlying5, markStringish, hsh]
  exact hfr _
theorem jtwo {Y X : World} {v1 v2 : Value} {a b : Bs} (s1 : SeesB Y Y.heap.size v1 a) (s2 : SeesB Y Y.heap.size v2 b) (G : Nat) (hG : G = Y.heap.size) (hX : Below (Y.alloc (.cells #[v1, v2] 23)).heap.size (Y.alloc (.cells #[v1, v2] 23)) X) (hl : (a ++ b).length ≤ 1099511627776) :
    Calls Tryz.prog 45 #[.slice (some ⟨G, 0, none⟩) 2 2] X (Gives (a ++ b) X) := by
  subst hG
  have h := seesL_lit Y 23 (vs := [v1, v2]) (ls := [a, b]) ⟨s1, s2, trivial⟩ (by simp [maxLen])
  have hf : [a, b].flatten = a ++ b := by simp
  have := join_any _ _ [a, b] X (h.below hX) hX.size (by rw [hf]; exact hl)
  rw [hf] at this
  exact this
theorem lit13_runJ (W : World) (G : Nat) (hG : G = W.heap.size) : (convert 23 23 (.slice (some ⟨G, 0, none⟩) 13 13)).run Tryz.prog (W.alloc (.cells #[.int .u8 115, .int .u8 101, .int .u8 99, .int .u8 116, .int .u8 105, .int .u8 109, .int .u8 101, .int .u8 32, .int .u8 98, .int .u8 97, .int .u8 116, .int .u8 99, .int .u8 104] 5)) = .ok (.slice (some ⟨G, 0, none⟩) 13 13) (W.alloc (.cells #[.int .u8 115, .int .u8 101, .int .u8 99, .int .u8 116, .int .u8 105, .int .u8 109, .int .u8 101, .int .u8 32, .int .u8 98, .int .u8 97, .int .u8 116, .int .u8 99, .int .u8 104] 5 (13, 14))) := by
  subst hG
  exact Lib.run_convert_bytes_const W 23 5 #[.int .u8 115, .int .u8 101, .int .u8 99, .int .u8 116, .int .u8 105, .int .u8 109, .int .u8 101, .int .u8 32, .int .u8 98, .int .u8 97, .int .u8 116, .int .u8 99, .int .u8 104] 13 13 Tryz.underlying23 Tryz.underlying5
set_option maxRecDepth 100000 in
set_option maxHeartbeats 8000000 in
theorem answer_any (B : Nat) (u u2 : Value) (sd : Bs) (h n : Int) (ns : List Bs) (lo hi : Int) (w : World) (hu : SeesB w B u sd) (hu2 : SeesL w B u2 ns) (hB : B ≤ w.heap.size) (hn : ns.length ≤ 1048576) :
    Calls Tryz.prog 17 #[.agg #[u, .int .i64 h, .int .i64 n], u2, .agg #[.int .i64 lo, .int .i64 hi]] w (AnswerP (answerR sd h n ns lo hi) w) := by
  obtain ⟨A, c, rfl, -, -⟩ := hu.mk_
  obtain ⟨A2, c2, rfl, -, -⟩ := hu2.mk_
  have b3 := bgo (bgo (balloc w (.cells #[.slice A sd.length c, .int .i64 h, .int .i64 n] 25)) (balloc _ (.cells #[.int .i64 lo, .int .i64 hi] 40))) (balloc _ (.cells #[.slice none 0 0, .int .i64 0, .int .i64 0] 25))
  have x3 := ((Box.new w 25 [.slice A sd.length c, .int .i64 h, .int .i64 n]).below (balloc _ (.cells #[.int .i64 lo, .int .i64 hi] 40))).below (balloc _ (.cells #[.slice none 0 0, .int .i64 0, .int .i64 0] 25))
  have x5 := (Box.new (w.alloc (.cells #[.slice A sd.length c, .int .i64 h, .int .i64 n] 25)) 40 [.int .i64 lo, .int .i64 hi]).below (balloc _ (.cells #[.slice none 0 0, .int .i64 0, .int .i64 0] 25))
  have x6 := Box.new ((w.alloc (.cells #[.slice A sd.length c, .int .i64 h, .int .i64 n] 25)).alloc (.cells #[.int .i64 lo, .int .i64 hi] 40)) 25 [.slice none 0 0, .int .i64 0, .int .i64 0]
  rw [World.size_alloc] at x5
  rw [World.size_alloc, World.size_alloc] at x6
  have su := Lib.hid (seesB_of hu hB b3)
  have sn := Lib.hid (seesL_of hu2 hB b3)
  have hg6 : w.heap.size ≤ w.heap.size + 1 + 1 := by omega
  replace hg6 := Lib.hid hg6
  have hn9 := Lib.hid hn
  have hbw := Lib.hid b3
  clear hu hu2 b3 hn
  change Box (((w.alloc (.cells #[.slice A sd.length c, .int .i64 h, .int .i64 n] 25)).alloc (.cells #[.int .i64 lo, .int .i64 hi] 40)).alloc (.cells #[.slice none 0 0, .int .i64 0, .int .i64 0] 25)) _ _ _ at x3 x5 x6
  go_enter Tryz.func17, Tryz.ntmps17
  go_upto_region 1 with (fail)
  generalize ((w.alloc (.cells #[.slice A sd.length c, .int .i64 h, .int .i64 n] 25)).alloc (.cells #[.int .i64 lo, .int .i64 hi] 40)).alloc (.cells #[.slice none 0 0, .int .i64 0, .int .i64 0] 25) = W0 at *
  generalize hG6 : w.heap.size + 1 + 1 = g6 at *
  generalize hG5 : w.heap.size + 1 = g5 at *
  generalize hG3 : w.heap.size = g3 at x3 ⊢
  replace hG6 := Lib.hid hG6
  replace hG5 := Lib.hid hG5
  replace hG3 := Lib.hid hG3
  obtain ⟨a0, a1, a2, -, -, -⟩ := box3_cells x3
  obtain ⟨a3, a4⟩ := boxT2 x5
  have hck := Lib.hid (bcheck_any W0.heap.size _ _ sd h n ns lo hi W0 su.out sn.out (Nat.le_refl _))
  go_wp2_with fail
  refine hck.out.mono ?_
  rintro e w1 ⟨rfl, hb1⟩
  replace x3 := x3.below hb1
  replace x5 := x5.below hb1
  replace x6 := x6.below hb1
  replace su := Lib.hid (seesB_of su.out (Nat.le_refl _) hb1)
  replace sn := Lib.hid (seesL_of sn.out (Nat.le_refl _) hb1)
  replace hbw := Lib.hid (bgo hbw.out hb1)
  clear a0 a1 a2 a3 a4 hck hb1
  dsimp only
  by_cases E1 : bchkC sd h n ns lo hi = 0
  rotate_left
  · have hr : Hid (answerR sd h n ns lo hi = (([], 0, 0), [], bchkC sd h n ns lo hi)) := by show _ = _; rw [answerR, if_neg E1]
    have hE : (bchkC sd h n ns lo hi == 0) = false := by simp [E1]
    generalize bchkC sd h n ns lo hi = E at *
    replace E1 := Lib.hid E1
    clear x3 x5
    obtain ⟨y0, y1, y2, f0, f1, f2⟩ := box3_cells x6
    go_wp2_with fail
    have k := box_set3 x6 (.slice none 0 0) (.int .i64 0) (.int .i64 0)
    have kb := Lib.hid (below_set3 hbw.out hg6.out (.slice none 0 0) (.int .i64 0) (.int .i64 0))
    clear y0 y1 y2 f0 f1 f2 x6
    generalize ((w1.setCell ⟨g6, 0, none⟩ (.slice none 0 0)).setCell ⟨g6, 1, none⟩ (.int .i64 0)).setCell ⟨g6, 2, none⟩ (.int .i64 0) = W9 at *
    obtain ⟨z0, z1, z2, -, -, -⟩ := box3_cells k
    refine bodyPost_ret (v := .tuple #[.agg #[.slice none 0 0, .int .i64 0, .int .i64 0], .slice none 0 0, .int .i64 E]) (by simp [results, Tryz.results17, go_sem, z0, z1, z2]) rfl ?_
    exact answer_bad hr.out kb.out
  obtain ⟨hvI, hn1, hn2, hvs, h32⟩ := bchk_zero E1
  have hr : Hid (answerR sd h n ns lo hi = if (signAll sd h n (tBatch ++ partG ns lo hi)).2.2.2.2 = 0 then
      (((signAll sd h n (tBatch ++ partG ns lo hi)).1, (signAll sd h n (tBatch ++ partG ns lo hi)).2.1, (signAll sd h n (tBatch ++ partG ns lo hi)).2.2.1), ansL ns (signAll sd h n (tBatch ++ partG ns lo hi)).2.2.2.1 (partG ns lo hi) ns.length, 0)
    else (([], 0, 0), [], (signAll sd h n (tBatch ++ partG ns lo hi)).2.2.2.2)) := by show _ = _; rw [answerR, if_pos E1]
  rw [E1]
  have hsg := Lib.hid (bsigned_any w1.heap.size _ ns lo hi w1 sn.out (Nat.le_refl _) hvs hn2 h32)
  have hTl2 := partG_len ns lo hi
  generalize partG ns lo hi = T at *
  obtain ⟨a3, a4⟩ := boxT2 x5
  replace E1 := Lib.hid E1
  replace hvI := Lib.hid hvI
  replace hvs := Lib.hid hvs
  replace h32 := Lib.hid h32
  go_wp2_with fail
  refine hsg.out.mono ?_
  rintro e W2 ⟨v7, rfl, o7, hb2⟩
  have sp2 := o7.sees
  obtain ⟨A7, c7, rfl, -, -⟩ := o7.sees.mk_
  replace sp2 := Lib.hid sp2
  replace x3 := x3.below hb2
  replace x6 := x6.below hb2
  replace su := Lib.hid (seesB_of su.out (Nat.le_refl _) hb2)
  replace sn := Lib.hid (seesL_of sn.out (Nat.le_refl _) hb2)
  replace hbw := Lib.hid (bgo hbw.out hb2)
  clear a3 a4 x5 hsg hb2 o7
  dsimp only
  have hm : (tBatch ++ T).length ≤ 65535 := by rw [List.length_append]; simp [tBatch]; omega
  have hTl : Hid ((tBatch ++ T).length ≤ 1099511627776) := by show _ ≤ _; omega
  have hsn := fun (W : World) (v : Value) (hW : Below W2.heap.size W2 W) (hv : SeesB W W.heap.size v (tBatch ++ T)) => sign_all W.heap.size (.slice A sd.length c) v sd (tBatch ++ T) h n W (seesB_of su.out (Nat.le_refl _) hW) hv (Nat.le_refl _) hm
  have hrg := fun h0 => sign_sig (m := tBatch ++ T) hvI.out h0
  generalize hsa : signAll sd h n (tBatch ++ T) = r at *
  replace hsa := Lib.hid hsa
  obtain ⟨rs, rh, rn, rg, rc⟩ := r
  dsimp only at hr hrg
  have hrl : Hid (rc = 0 → rg.length ≤ 757) := fun h0 => by
    obtain ⟨k', i', -, -, hk6, -, -, e9⟩ := hrg h0
    cases e9
    rw [sigG_len]
    omega
  unfold SignPost at hsn
  dsimp only at hsn
  replace hsn := Lib.hid hsn
  replace hm := Lib.hid hm
  have K : Hid (∀ W : World, Below W2.heap.size W2 W → W.cell? ⟨g3, 0, none⟩ = some (.slice A sd.length c) ∧ W.cell? ⟨g3, 1, none⟩ = some (.int .i64 h) ∧ W.cell? ⟨g3, 2, none⟩ = some (.int .i64 n)) := fun W hW => ⟨(x3.below hW).cell 0, (x3.below hW).cell 1, (x3.below hW).cell 2⟩
  obtain ⟨c0, c1, c2'⟩ := K.out W2 (Below.refl _ _)
  clear hrg x3
  go_wp2_with fail
  go_cut [11, 12, 13] (fun v11 v12 v13 W => SgnR W2 rs rh rn rg rc v11 v12 v13 W)
  case first =>
    have sT := sp2.out
    have q1 : SeesB (W2.alloc (.cells #[.int .u8 115, .int .u8 101, .int .u8 99, .int .u8 116, .int .u8 105, .int .u8 109, .int .u8 101, .int .u8 32, .int .u8 98, .int .u8 97, .int .u8 116, .int .u8 99, .int .u8 104] 5 (13, 14))) (W2.alloc (.cells #[.int .u8 115, .int .u8 101, .int .u8 99, .int .u8 116, .int .u8 105, .int .u8 109, .int .u8 101, .int .u8 32, .int .u8 98, .int .u8 97, .int .u8 116, .int .u8 99, .int .u8 104] 5 (13, 14))).heap.size (.slice (some ⟨W2.heap.size, 0, none⟩) 13 13) tBatch := (lit13_sees W2).more (by rw [World.size_alloc]; exact Nat.le_refl _)
    have p1 : SeesB (W2.alloc (.cells #[.int .u8 115, .int .u8 101, .int .u8 99, .int .u8 116, .int .u8 105, .int .u8 109, .int .u8 101, .int .u8 32, .int .u8 98, .int .u8 97, .int .u8 116, .int .u8 99, .int .u8 104] 5 (13, 14))) (W2.alloc (.cells #[.int .u8 115, .int .u8 101, .int .u8 99, .int .u8 116, .int .u8 105, .int .u8 109, .int .u8 101, .int .u8 32, .int .u8 98, .int .u8 97, .int .u8 116, .int .u8 99, .int .u8 104] 5 (13, 14))).heap.size (.slice A7 T.length c7) T := seesB_of sT (Nat.le_refl _) (balloc W2 _)
    have q2 : SeesB ((W2.alloc (.cells #[.slice none 0 0, .int .i64 0, .int .i64 0] 25)).alloc (.cells #[.int .u8 115, .int .u8 101, .int .u8 99, .int .u8 116, .int .u8 105, .int .u8 109, .int .u8 101, .int .u8 32, .int .u8 98, .int .u8 97, .int .u8 116, .int .u8 99, .int .u8 104] 5 (13, 14))) ((W2.alloc (.cells #[.slice none 0 0, .int .i64 0, .int .i64 0] 25)).alloc (.cells #[.int .u8 115, .int .u8 101, .int .u8 99, .int .u8 116, .int .u8 105, .int .u8 109, .int .u8 101, .int .u8 32, .int .u8 98, .int .u8 97, .int .u8 116, .int .u8 99, .int .u8 104] 5 (13, 14))).heap.size (.slice (some ⟨W2.heap.size + 1, 0, none⟩) 13 13) tBatch := by have h := lit13_sees (W2.alloc (.cells #[.slice none 0 0, .int .i64 0, .int .i64 0] 25)); rw [World.size_alloc] at h; exact h.more (by rw [World.size_alloc, World.size_alloc]; exact Nat.le_refl _)
    have p2 : SeesB ((W2.alloc (.cells #[.slice none 0 0, .int .i64 0, .int .i64 0] 25)).alloc (.cells #[.int .u8 115, .int .u8 101, .int .u8 99, .int .u8 116, .int .u8 105, .int .u8 109, .int .u8 101, .int .u8 32, .int .u8 98, .int .u8 97, .int .u8 116, .int .u8 99, .int .u8 104] 5 (13, 14))) ((W2.alloc (.cells #[.slice none 0 0, .int .i64 0, .int .i64 0] 25)).alloc (.cells #[.int .u8 115, .int .u8 101, .int .u8 99, .int .u8 116, .int .u8 105, .int .u8 109, .int .u8 101, .int .u8 32, .int .u8 98, .int .u8 97, .int .u8 116, .int .u8 99, .int .u8 104] 5 (13, 14))).heap.size (.slice A7 T.length c7) T := seesB_of sT (Nat.le_refl _) (bgo (balloc W2 _) (balloc _ _))
    have q3 : SeesB ((W2.alloc (.cells #[.int .u8 115, .int .u8 101, .int .u8 99, .int .u8 116, .int .u8 105, .int .u8 109, .int .u8 101, .int .u8 32, .int .u8 98, .int .u8 97, .int .u8 116, .int .u8 99, .int .u8 104] 5 (13, 14))).alloc (.cells #[.slice none 0 0, .int .i64 0, .int .i64 0] 25)) ((W2.alloc (.cells #[.int .u8 115, .int .u8 101, .int .u8 99, .int .u8 116, .int .u8 105, .int .u8 109, .int .u8 101, .int .u8 32, .int .u8 98, .int .u8 97, .int .u8 116, .int .u8 99, .int .u8 104] 5 (13, 14))).alloc (.cells #[.slice none 0 0, .int .i64 0, .int .i64 0] 25)).heap.size (.slice (some ⟨W2.heap.size, 0, none⟩) 13 13) tBatch := seesB_of q1 (Nat.le_refl _) (balloc _ _)
    have p3 : SeesB ((W2.alloc (.cells #[.int .u8 115, .int .u8 101, .int .u8 99, .int .u8 116, .int .u8 105, .int .u8 109, .int .u8 101, .int .u8 32, .int .u8 98, .int .u8 97, .int .u8 116, .int .u8 99, .int .u8 104] 5 (13, 14))).alloc (.cells #[.slice none 0 0, .int .i64 0, .int .i64 0] 25)) ((W2.alloc (.cells #[.int .u8 115, .int .u8 101, .int .u8 99, .int .u8 116, .int .u8 105, .int .u8 109, .int .u8 101, .int .u8 32, .int .u8 98, .int .u8 97, .int .u8 116, .int .u8 99, .int .u8 104] 5 (13, 14))).alloc (.cells #[.slice none 0 0, .int .i64 0, .int .i64 0] 25)).heap.size (.slice A7 T.length c7) T := seesB_of p1 (Nat.le_refl _) (balloc _ _)
    have hja := Lib.hid (jtwo (X := ((W2.alloc (.cells #[.int .u8 115, .int .u8 101, .int .u8 99, .int .u8 116, .int .u8 105, .int .u8 109, .int .u8 101, .int .u8 32, .int .u8 98, .int .u8 97, .int .u8 116, .int .u8 99, .int .u8 104] 5 (13, 14))).alloc (.cells #[.slice (some ⟨W2.heap.size, 0, none⟩) 13 13, .slice A7 T.length c7] 23))) q1 p1 (W2.heap.size + 1) (by simp only [World.size_alloc]) (Below.refl _ _) hTl.out)
    have hda := Lib.hid (jtwo (X := ((W2.alloc (.cells #[.int .u8 115, .int .u8 101, .int .u8 99, .int .u8 116, .int .u8 105, .int .u8 109, .int .u8 101, .int .u8 32, .int .u8 98, .int .u8 97, .int .u8 116, .int .u8 99, .int .u8 104] 5 (13, 14))).alloc (.cells #[.slice (some ⟨W2.heap.size, 0, none⟩) 13 13, .slice A7 T.length c7] 23)).drew) q1 p1 (W2.heap.size + 1) (by simp only [World.size_alloc]) (bgo (Below.refl _ _) (bdrew _)) hTl.out)
    have hjb := Lib.hid (jtwo (X := (((W2.alloc (.cells #[.int .u8 115, .int .u8 101, .int .u8 99, .int .u8 116, .int .u8 105, .int .u8 109, .int .u8 101, .int .u8 32, .int .u8 98, .int .u8 97, .int .u8 116, .int .u8 99, .int .u8 104] 5 (13, 14))).alloc (.cells #[.slice (some ⟨W2.heap.size, 0, none⟩) 13 13, .slice A7 T.length c7] 23)).alloc (.cells #[.slice none 0 0, .int .i64 0, .int .i64 0] 25))) q1 p1 (W2.heap.size + 1) (by simp only [World.size_alloc]) (balloc _ _) hTl.out)
    have hdb := Lib.hid (jtwo (X := (((W2.alloc (.cells #[.int .u8 115, .int .u8 101, .int .u8 99, .int .u8 116, .int .u8 105, .int .u8 109, .int .u8 101, .int .u8 32, .int .u8 98, .int .u8 97, .int .u8 116, .int .u8 99, .int .u8 104] 5 (13, 14))).alloc (.cells #[.slice (some ⟨W2.heap.size, 0, none⟩) 13 13, .slice A7 T.length c7] 23)).alloc (.cells #[.slice none 0 0, .int .i64 0, .int .i64 0] 25)).drew) q1 p1 (W2.heap.size + 1) (by simp only [World.size_alloc]) (bgo (balloc _ _) (bdrew _)) hTl.out)
    have hjc := Lib.hid (jtwo (X := (((W2.alloc (.cells #[.slice none 0 0, .int .i64 0, .int .i64 0] 25)).alloc (.cells #[.int .u8 115, .int .u8 101, .int .u8 99, .int .u8 116, .int .u8 105, .int .u8 109, .int .u8 101, .int .u8 32, .int .u8 98, .int .u8 97, .int .u8 116, .int .u8 99, .int .u8 104] 5 (13, 14))).alloc (.cells #[.slice (some ⟨W2.heap.size + 1, 0, none⟩) 13 13, .slice A7 T.length c7] 23))) q2 p2 (W2.heap.size + 1 + 1) (by simp only [World.size_alloc]) (Below.refl _ _) hTl.out)
    have hdc := Lib.hid (jtwo (X := (((W2.alloc (.cells #[.slice none 0 0, .int .i64 0, .int .i64 0] 25)).alloc (.cells #[.int .u8 115, .int .u8 101, .int .u8 99, .int .u8 116, .int .u8 105, .int .u8 109, .int .u8 101, .int .u8 32, .int .u8 98, .int .u8 97, .int .u8 116, .int .u8 99, .int .u8 104] 5 (13, 14))).alloc (.cells #[.slice (some ⟨W2.heap.size + 1, 0, none⟩) 13 13, .slice A7 T.length c7] 23)).drew) q2 p2 (W2.heap.size + 1 + 1) (by simp only [World.size_alloc]) (bgo (Below.refl _ _) (bdrew _)) hTl.out)
    have hjd := Lib.hid (jtwo (X := (((W2.alloc (.cells #[.int .u8 115, .int .u8 101, .int .u8 99, .int .u8 116, .int .u8 105, .int .u8 109, .int .u8 101, .int .u8 32, .int .u8 98, .int .u8 97, .int .u8 116, .int .u8 99, .int .u8 104] 5 (13, 14))).alloc (.cells #[.slice none 0 0, .int .i64 0, .int .i64 0] 25)).alloc (.cells #[.slice (some ⟨W2.heap.size, 0, none⟩) 13 13, .slice A7 T.length c7] 23))) q3 p3 (W2.heap.size + 1 + 1) (by simp only [World.size_alloc]) (Below.refl _ _) hTl.out)
    have hdd := Lib.hid (jtwo (X := (((W2.alloc (.cells #[.int .u8 115, .int .u8 101, .int .u8 99, .int .u8 116, .int .u8 105, .int .u8 109, .int .u8 101, .int .u8 32, .int .u8 98, .int .u8 97, .int .u8 116, .int .u8 99, .int .u8 104] 5 (13, 14))).alloc (.cells #[.slice none 0 0, .int .i64 0, .int .i64 0] 25)).alloc (.cells #[.slice (some ⟨W2.heap.size, 0, none⟩) 13 13, .slice A7 T.length c7] 23)).drew) q3 p3 (W2.heap.size + 1 + 1) (by simp only [World.size_alloc]) (bgo (Below.refl _ _) (bdrew _)) hTl.out)
    clear sT q1 p1 q2 p2 q3 p3 x6
    generalize tBatch ++ T = M at *
    have hcAj : (convert 23 23 (.slice (some ⟨W2.heap.size, 0, none⟩) 13 13)).run Tryz.prog (W2.alloc (.cells #[.int .u8 115, .int .u8 101, .int .u8 99, .int .u8 116, .int .u8 105, .int .u8 109, .int .u8 101, .int .u8 32, .int .u8 98, .int .u8 97, .int .u8 116, .int .u8 99, .int .u8 104] 5)) = .ok (.slice (some ⟨W2.heap.size, 0, none⟩) 13 13) (W2.alloc (.cells #[.int .u8 115, .int .u8 101, .int .u8 99, .int .u8 116, .int .u8 105, .int .u8 109, .int .u8 101, .int .u8 32, .int .u8 98, .int .u8 97, .int .u8 116, .int .u8 99, .int .u8 104] 5 (13, 14))) := lit13_runJ W2 W2.heap.size rfl
    have hcBj : (convert 23 23 (.slice (some ⟨W2.heap.size + 1, 0, none⟩) 13 13)).run Tryz.prog ((W2.alloc (.cells #[.slice none 0 0, .int .i64 0, .int .i64 0] 25)).alloc (.cells #[.int .u8 115, .int .u8 101, .int .u8 99, .int .u8 116, .int .u8 105, .int .u8 109, .int .u8 101, .int .u8 32, .int .u8 98, .int .u8 97, .int .u8 116, .int .u8 99, .int .u8 104] 5)) = .ok (.slice (some ⟨W2.heap.size + 1, 0, none⟩) 13 13) ((W2.alloc (.cells #[.slice none 0 0, .int .i64 0, .int .i64 0] 25)).alloc (.cells #[.int .u8 115, .int .u8 101, .int .u8 99, .int .u8 116, .int .u8 105, .int .u8 109, .int .u8 101, .int .u8 32, .int .u8 98, .int .u8 97, .int .u8 116, .int .u8 99, .int .u8 104] 5 (13, 14))) := lit13_runJ (W2.alloc (.cells #[.slice none 0 0, .int .i64 0, .int .i64 0] 25)) (W2.heap.size + 1) (by rw [World.size_alloc])
    have hcCj : (convert 23 23 (.slice (some ⟨W2.heap.size, 0, none⟩) 13 13)).run Tryz.prog ((W2.alloc (.cells #[.int .u8 115, .int .u8 101, .int .u8 99, .int .u8 116, .int .u8 105, .int .u8 109, .int .u8 101, .int .u8 32, .int .u8 98, .int .u8 97, .int .u8 116, .int .u8 99, .int .u8 104] 5)).alloc (.cells #[.slice none 0 0, .int .i64 0, .int .i64 0] 25)) = .ok (.slice (some ⟨W2.heap.size, 0, none⟩) 13 13) ((W2.alloc (.cells #[.int .u8 115, .int .u8 101, .int .u8 99, .int .u8 116, .int .u8 105, .int .u8 109, .int .u8 101, .int .u8 32, .int .u8 98, .int .u8 97, .int .u8 116, .int .u8 99, .int .u8 104] 5 (13, 14))).alloc (.cells #[.slice none 0 0, .int .i64 0, .int .i64 0] 25)) := lit13_mid W2 _ _ 13 13 rfl
    have hcAd : (convert 23 23 (.slice (some ⟨W2.heap.size, 0, none⟩) 13 13)).run Tryz.prog (W2.alloc (.cells #[.int .u8 115, .int .u8 101, .int .u8 99, .int .u8 116, .int .u8 105, .int .u8 109, .int .u8 101, .int .u8 32, .int .u8 98, .int .u8 97, .int .u8 116, .int .u8 99, .int .u8 104] 5)).drew = .ok (.slice (some ⟨W2.heap.size, 0, none⟩) 13 13) (W2.alloc (.cells #[.int .u8 115, .int .u8 101, .int .u8 99, .int .u8 116, .int .u8 105, .int .u8 109, .int .u8 101, .int .u8 32, .int .u8 98, .int .u8 97, .int .u8 116, .int .u8 99, .int .u8 104] 5 (13, 14))).drew := lit13_run W2 W2.heap.size rfl
    have hcBd : (convert 23 23 (.slice (some ⟨W2.heap.size + 1, 0, none⟩) 13 13)).run Tryz.prog ((W2.alloc (.cells #[.slice none 0 0, .int .i64 0, .int .i64 0] 25)).alloc (.cells #[.int .u8 115, .int .u8 101, .int .u8 99, .int .u8 116, .int .u8 105, .int .u8 109, .int .u8 101, .int .u8 32, .int .u8 98, .int .u8 97, .int .u8 116, .int .u8 99, .int .u8 104] 5)).drew = .ok (.slice (some ⟨W2.heap.size + 1, 0, none⟩) 13 13) ((W2.alloc (.cells #[.slice none 0 0, .int .i64 0, .int .i64 0] 25)).alloc (.cells #[.int .u8 115, .int .u8 101, .int .u8 99, .int .u8 116, .int .u8 105, .int .u8 109, .int .u8 101, .int .u8 32, .int .u8 98, .int .u8 97, .int .u8 116, .int .u8 99, .int .u8 104] 5 (13, 14))).drew := lit13_run (W2.alloc (.cells #[.slice none 0 0, .int .i64 0, .int .i64 0] 25)) (W2.heap.size + 1) (by rw [World.size_alloc])
    have hcCd : (convert 23 23 (.slice (some ⟨W2.heap.size, 0, none⟩) 13 13)).run Tryz.prog ((W2.alloc (.cells #[.int .u8 115, .int .u8 101, .int .u8 99, .int .u8 116, .int .u8 105, .int .u8 109, .int .u8 101, .int .u8 32, .int .u8 98, .int .u8 97, .int .u8 116, .int .u8 99, .int .u8 104] 5)).alloc (.cells #[.slice none 0 0, .int .i64 0, .int .i64 0] 25)).drew = .ok (.slice (some ⟨W2.heap.size, 0, none⟩) 13 13) ((W2.alloc (.cells #[.int .u8 115, .int .u8 101, .int .u8 99, .int .u8 116, .int .u8 105, .int .u8 109, .int .u8 101, .int .u8 32, .int .u8 98, .int .u8 97, .int .u8 116, .int .u8 99, .int .u8 104] 5 (13, 14))).alloc (.cells #[.slice none 0 0, .int .i64 0, .int .i64 0] 25)).drew := lit13_mid W2.drew _ _ 13 13 rfl
    have bxb : Box (((W2.alloc (.cells #[.int .u8 115, .int .u8 101, .int .u8 99, .int .u8 116, .int .u8 105, .int .u8 109, .int .u8 101, .int .u8 32, .int .u8 98, .int .u8 97, .int .u8 116, .int .u8 99, .int .u8 104] 5 (13, 14))).alloc (.cells #[.slice (some ⟨W2.heap.size, 0, none⟩) 13 13, .slice A7 T.length c7] 23)).alloc (.cells #[.slice none 0 0, .int .i64 0, .int .i64 0] 25)) (W2.heap.size + 1 + 1) 25 [.slice none 0 0, .int .i64 0, .int .i64 0] := by
      have h := Box.new ((W2.alloc (.cells #[.int .u8 115, .int .u8 101, .int .u8 99, .int .u8 116, .int .u8 105, .int .u8 109, .int .u8 101, .int .u8 32, .int .u8 98, .int .u8 97, .int .u8 116, .int .u8 99, .int .u8 104] 5 (13, 14))).alloc (.cells #[.slice (some ⟨W2.heap.size, 0, none⟩) 13 13, .slice A7 T.length c7] 23)) 25 [.slice none 0 0, .int .i64 0, .int .i64 0]
      rw [World.size_alloc, World.size_alloc] at h
      exact h
    have bxc : Box (((W2.alloc (.cells #[.slice none 0 0, .int .i64 0, .int .i64 0] 25)).alloc (.cells #[.int .u8 115, .int .u8 101, .int .u8 99, .int .u8 116, .int .u8 105, .int .u8 109, .int .u8 101, .int .u8 32, .int .u8 98, .int .u8 97, .int .u8 116, .int .u8 99, .int .u8 104] 5 (13, 14))).alloc (.cells #[.slice (some ⟨W2.heap.size + 1, 0, none⟩) 13 13, .slice A7 T.length c7] 23)) W2.heap.size 25 [.slice none 0 0, .int .i64 0, .int .i64 0] := ((Box.new W2 25 [.slice none 0 0, .int .i64 0, .int .i64 0]).below (balloc _ (.cells #[.int .u8 115, .int .u8 101, .int .u8 99, .int .u8 116, .int .u8 105, .int .u8 109, .int .u8 101, .int .u8 32, .int .u8 98, .int .u8 97, .int .u8 116, .int .u8 99, .int .u8 104] 5 (13, 14)))).below (balloc _ (.cells #[.slice (some ⟨W2.heap.size + 1, 0, none⟩) 13 13, .slice A7 T.length c7] 23))
    have bxd : Box (((W2.alloc (.cells #[.int .u8 115, .int .u8 101, .int .u8 99, .int .u8 116, .int .u8 105, .int .u8 109, .int .u8 101, .int .u8 32, .int .u8 98, .int .u8 97, .int .u8 116, .int .u8 99, .int .u8 104] 5 (13, 14))).alloc (.cells #[.slice none 0 0, .int .i64 0, .int .i64 0] 25)).alloc (.cells #[.slice (some ⟨W2.heap.size, 0, none⟩) 13 13, .slice A7 T.length c7] 23)) (W2.heap.size + 1) 25 [.slice none 0 0, .int .i64 0, .int .i64 0] := by
      have h := (Box.new (W2.alloc (.cells #[.int .u8 115, .int .u8 101, .int .u8 99, .int .u8 116, .int .u8 105, .int .u8 109, .int .u8 101, .int .u8 32, .int .u8 98, .int .u8 97, .int .u8 116, .int .u8 99, .int .u8 104] 5 (13, 14))) 25 [.slice none 0 0, .int .i64 0, .int .i64 0]).below (balloc _ (.cells #[.slice (some ⟨W2.heap.size, 0, none⟩) 13 13, .slice A7 T.length c7] 23))
      rw [World.size_alloc] at h
      exact h
    replace bxb := Lib.hid bxb
    replace bxc := Lib.hid bxc
    replace bxd := Lib.hid bxd
    obtain ⟨m0a, m0b, m0c⟩ := K.out (W2.alloc (.cells #[.int .u8 115, .int .u8 101, .int .u8 99, .int .u8 116, .int .u8 105, .int .u8 109, .int .u8 101, .int .u8 32, .int .u8 98, .int .u8 97, .int .u8 116, .int .u8 99, .int .u8 104] 5)) (balloc W2 _)
    obtain ⟨m1a, m1b, m1c⟩ := K.out (W2.alloc (.cells #[.int .u8 115, .int .u8 101, .int .u8 99, .int .u8 116, .int .u8 105, .int .u8 109, .int .u8 101, .int .u8 32, .int .u8 98, .int .u8 97, .int .u8 116, .int .u8 99, .int .u8 104] 5 (13, 14))) (balloc W2 _)
    obtain ⟨m2a, m2b, m2c⟩ := K.out ((W2.alloc (.cells #[.int .u8 115, .int .u8 101, .int .u8 99, .int .u8 116, .int .u8 105, .int .u8 109, .int .u8 101, .int .u8 32, .int .u8 98, .int .u8 97, .int .u8 116, .int .u8 99, .int .u8 104] 5 (13, 14))).alloc (.cells #[.slice (some ⟨W2.heap.size, 0, none⟩) 13 13, .slice A7 T.length c7] 23)) (bgo (balloc W2 _) (balloc _ _))
    obtain ⟨m3a, m3b, m3c⟩ := K.out (((W2.alloc (.cells #[.int .u8 115, .int .u8 101, .int .u8 99, .int .u8 116, .int .u8 105, .int .u8 109, .int .u8 101, .int .u8 32, .int .u8 98, .int .u8 97, .int .u8 116, .int .u8 99, .int .u8 104] 5 (13, 14))).alloc (.cells #[.slice (some ⟨W2.heap.size, 0, none⟩) 13 13, .slice A7 T.length c7] 23)).alloc (.cells #[.slice none 0 0, .int .i64 0, .int .i64 0] 25)) (bgo (bgo (balloc W2 _) (balloc _ _)) (balloc _ _))
    obtain ⟨m4a, m4b, m4c⟩ := K.out (W2.alloc (.cells #[.slice none 0 0, .int .i64 0, .int .i64 0] 25)) (balloc W2 _)
    obtain ⟨m5a, m5b, m5c⟩ := K.out ((W2.alloc (.cells #[.slice none 0 0, .int .i64 0, .int .i64 0] 25)).alloc (.cells #[.int .u8 115, .int .u8 101, .int .u8 99, .int .u8 116, .int .u8 105, .int .u8 109, .int .u8 101, .int .u8 32, .int .u8 98, .int .u8 97, .int .u8 116, .int .u8 99, .int .u8 104] 5)) (bgo (balloc W2 _) (balloc _ _))
    obtain ⟨m6a, m6b, m6c⟩ := K.out ((W2.alloc (.cells #[.slice none 0 0, .int .i64 0, .int .i64 0] 25)).alloc (.cells #[.int .u8 115, .int .u8 101, .int .u8 99, .int .u8 116, .int .u8 105, .int .u8 109, .int .u8 101, .int .u8 32, .int .u8 98, .int .u8 97, .int .u8 116, .int .u8 99, .int .u8 104] 5 (13, 14))) (bgo (balloc W2 _) (balloc _ _))
    obtain ⟨m7a, m7b, m7c⟩ := K.out (((W2.alloc (.cells #[.slice none 0 0, .int .i64 0, .int .i64 0] 25)).alloc (.cells #[.int .u8 115, .int .u8 101, .int .u8 99, .int .u8 116, .int .u8 105, .int .u8 109, .int .u8 101, .int .u8 32, .int .u8 98, .int .u8 97, .int .u8 116, .int .u8 99, .int .u8 104] 5 (13, 14))).alloc (.cells #[.slice (some ⟨W2.heap.size + 1, 0, none⟩) 13 13, .slice A7 T.length c7] 23)) (bgo (bgo (balloc W2 _) (balloc _ _)) (balloc _ _))
    obtain ⟨m8a, m8b, m8c⟩ := K.out ((W2.alloc (.cells #[.int .u8 115, .int .u8 101, .int .u8 99, .int .u8 116, .int .u8 105, .int .u8 109, .int .u8 101, .int .u8 32, .int .u8 98, .int .u8 97, .int .u8 116, .int .u8 99, .int .u8 104] 5)).alloc (.cells #[.slice none 0 0, .int .i64 0, .int .i64 0] 25)) (bgo (balloc W2 _) (balloc _ _))
    obtain ⟨m9a, m9b, m9c⟩ := K.out ((W2.alloc (.cells #[.int .u8 115, .int .u8 101, .int .u8 99, .int .u8 116, .int .u8 105, .int .u8 109, .int .u8 101, .int .u8 32, .int .u8 98, .int .u8 97, .int .u8 116, .int .u8 99, .int .u8 104] 5 (13, 14))).alloc (.cells #[.slice none 0 0, .int .i64 0, .int .i64 0] 25)) (bgo (balloc W2 _) (balloc _ _))
    obtain ⟨m10a, m10b, m10c⟩ := K.out (((W2.alloc (.cells #[.int .u8 115, .int .u8 101, .int .u8 99, .int .u8 116, .int .u8 105, .int .u8 109, .int .u8 101, .int .u8 32, .int .u8 98, .int .u8 97, .int .u8 116, .int .u8 99, .int .u8 104] 5 (13, 14))).alloc (.cells #[.slice none 0 0, .int .i64 0, .int .i64 0] 25)).alloc (.cells #[.slice (some ⟨W2.heap.size, 0, none⟩) 13 13, .slice A7 T.length c7] 23)) (bgo (bgo (balloc W2 _) (balloc _ _)) (balloc _ _))
    go_region_with
      (first
        | (go_at_call 44; (with_reducible refine (hsn.out (w9.alloc (.cells #[.slice none 0 0, .int .i64 0, .int .i64 0] 25)) _ (bgo hb9 (balloc w9 _)) (seesB_of s9 (Nat.le_refl _) (balloc w9 _))).mono ?_); rintro e w10 ⟨v1, v2, rfl, t1, t2, hb10⟩
           obtain ⟨A1, k1, rfl, -, -⟩ := t1.mk_
           obtain ⟨A8, k8, rfl, -, -⟩ := t2.mk_
           have bz := (Box.new w9 25 [.slice none 0 0, .int .i64 0, .int .i64 0]).below hb10
           have hz9 := hb9.size
           replace hb10 := bgo (bgo hb9 (balloc w9 _)) hb10
           obtain ⟨e0, e1, e2, j0, j1, j2⟩ := box3_cells bz)
        | (go_at_call 44; have _q := bz9; (with_reducible refine (hsn.out w9 _ hb9 s9).mono ?_); rintro e w10 ⟨v1, v2, rfl, t1, t2, hb10⟩
           obtain ⟨A1, k1, rfl, -, -⟩ := t1.mk_
           obtain ⟨A8, k8, rfl, -, -⟩ := t2.mk_
           have bz := bz9.below hb10
           replace hb10 := bgo hb9 hb10
           have hz9 : W2.heap.size ≤ W2.heap.size := Nat.le_refl W2.heap.size
           obtain ⟨e0, e1, e2, j0, j1, j2⟩ := box3_cells bz)
        | (go_at_call 44; (with_reducible refine (hsn.out w9 _ hb9 s9).mono ?_); rintro e w10 ⟨v1, v2, rfl, t1, t2, hb10⟩
           obtain ⟨A1, k1, rfl, -, -⟩ := t1.mk_
           obtain ⟨A8, k8, rfl, -, -⟩ := t2.mk_
           replace hb10 := bgo hb9 hb10)
        | (go_at_call 45; (with_reducible refine hda.out.mono ?_); rintro e w9 ⟨v9, rfl, o9, hb9⟩
           have s9 := o9.sees
           obtain ⟨A9, c9, rfl, -, -⟩ := o9.sees.mk_
           replace hb9 := bgo (bgo (bgo (balloc W2 _) (balloc _ _)) (bdrew _)) hb9
           obtain ⟨d0, d1, d2⟩ := K.out w9 hb9
           obtain ⟨d3, d4, d5⟩ := K.out (w9.alloc (.cells #[.slice none 0 0, .int .i64 0, .int .i64 0] 25)) (bgo hb9 (balloc w9 _)))
        | (go_at_call 45; (with_reducible refine hja.out.mono ?_); rintro e w9 ⟨v9, rfl, o9, hb9⟩
           have s9 := o9.sees
           obtain ⟨A9, c9, rfl, -, -⟩ := o9.sees.mk_
           replace hb9 := bgo (bgo (balloc W2 _) (balloc _ _)) hb9
           obtain ⟨d0, d1, d2⟩ := K.out w9 hb9
           obtain ⟨d3, d4, d5⟩ := K.out (w9.alloc (.cells #[.slice none 0 0, .int .i64 0, .int .i64 0] 25)) (bgo hb9 (balloc w9 _)))
        | (go_at_call 45; (with_reducible refine hdb.out.mono ?_); rintro e w9 ⟨v9, rfl, o9, hb9⟩
           have s9 := o9.sees
           obtain ⟨A9, c9, rfl, -, -⟩ := o9.sees.mk_
           have bz9 := bxb.out.below (bdrew _) |>.below hb9
           replace hb9 := bgo (bgo (bgo (bgo (balloc W2 _) (balloc _ _)) (balloc _ _)) (bdrew _)) hb9
           obtain ⟨d0, d1, d2⟩ := K.out w9 hb9
           obtain ⟨d3, d4, d5⟩ := K.out (w9.alloc (.cells #[.slice none 0 0, .int .i64 0, .int .i64 0] 25)) (bgo hb9 (balloc w9 _)))
        | (go_at_call 45; (with_reducible refine hjb.out.mono ?_); rintro e w9 ⟨v9, rfl, o9, hb9⟩
           have s9 := o9.sees
           obtain ⟨A9, c9, rfl, -, -⟩ := o9.sees.mk_
           have bz9 := bxb.out |>.below hb9
           replace hb9 := bgo (bgo (bgo (balloc W2 _) (balloc _ _)) (balloc _ _)) hb9
           obtain ⟨d0, d1, d2⟩ := K.out w9 hb9
           obtain ⟨d3, d4, d5⟩ := K.out (w9.alloc (.cells #[.slice none 0 0, .int .i64 0, .int .i64 0] 25)) (bgo hb9 (balloc w9 _)))
        | (go_at_call 45; (with_reducible refine hdc.out.mono ?_); rintro e w9 ⟨v9, rfl, o9, hb9⟩
           have s9 := o9.sees
           obtain ⟨A9, c9, rfl, -, -⟩ := o9.sees.mk_
           have bz9 := bxc.out.below (bdrew _) |>.below hb9
           replace hb9 := bgo (bgo (bgo (bgo (balloc W2 _) (balloc _ _)) (balloc _ _)) (bdrew _)) hb9
           obtain ⟨d0, d1, d2⟩ := K.out w9 hb9
           obtain ⟨d3, d4, d5⟩ := K.out (w9.alloc (.cells #[.slice none 0 0, .int .i64 0, .int .i64 0] 25)) (bgo hb9 (balloc w9 _)))
        | (go_at_call 45; (with_reducible refine hjc.out.mono ?_); rintro e w9 ⟨v9, rfl, o9, hb9⟩
           have s9 := o9.sees
           obtain ⟨A9, c9, rfl, -, -⟩ := o9.sees.mk_
           have bz9 := bxc.out |>.below hb9
           replace hb9 := bgo (bgo (bgo (balloc W2 _) (balloc _ _)) (balloc _ _)) hb9
           obtain ⟨d0, d1, d2⟩ := K.out w9 hb9
           obtain ⟨d3, d4, d5⟩ := K.out (w9.alloc (.cells #[.slice none 0 0, .int .i64 0, .int .i64 0] 25)) (bgo hb9 (balloc w9 _)))
        | (go_at_call 45; (with_reducible refine hdd.out.mono ?_); rintro e w9 ⟨v9, rfl, o9, hb9⟩
           have s9 := o9.sees
           obtain ⟨A9, c9, rfl, -, -⟩ := o9.sees.mk_
           have bz9 := bxd.out.below (bdrew _) |>.below hb9
           replace hb9 := bgo (bgo (bgo (bgo (balloc W2 _) (balloc _ _)) (balloc _ _)) (bdrew _)) hb9
           obtain ⟨d0, d1, d2⟩ := K.out w9 hb9
           obtain ⟨d3, d4, d5⟩ := K.out (w9.alloc (.cells #[.slice none 0 0, .int .i64 0, .int .i64 0] 25)) (bgo hb9 (balloc w9 _)))
        | (go_at_call 45; (with_reducible refine hjd.out.mono ?_); rintro e w9 ⟨v9, rfl, o9, hb9⟩
           have s9 := o9.sees
           obtain ⟨A9, c9, rfl, -, -⟩ := o9.sees.mk_
           have bz9 := bxd.out |>.below hb9
           replace hb9 := bgo (bgo (bgo (balloc W2 _) (balloc _ _)) (balloc _ _)) hb9
           obtain ⟨d0, d1, d2⟩ := K.out w9 hb9
           obtain ⟨d3, d4, d5⟩ := K.out (w9.alloc (.cells #[.slice none 0 0, .int .i64 0, .int .i64 0] 25)) (bgo hb9 (balloc w9 _))))
    all_goals
      go_wp2_with fail
      go_meet
      first
        | (with_reducible exact sgn_new W2 w10 _ _ _ _ _ _ _ _ _ t1 t2 hb10)
        | (with_reducible exact sgn_set W2 w10 _ _ _ _ _ _ _ _ _ _ bz t1 t2 (by omega) hb10)
  case rest =>
    obtain ⟨g11, A1, k1, A8, k8, rfl, rfl, rfl, b11, t1, t2, hg11, hb3⟩ := hcut
    obtain ⟨w3, rfl⟩ : ∃ w3 : World, w3 = wc := ⟨_, rfl⟩
    have q6 : Hid (g6 < w3.heap.size) := (x6.below hb3).lt
    replace x6 := x6.below hb3
    replace sn := Lib.hid (seesL_of sn.out (Nat.le_refl _) hb3)
    replace sp2 := Lib.hid (seesB_of sp2.out (Nat.le_refl _) hb3)
    replace hbw := Lib.hid (bgo hbw.out hb3)
    clear c0 c1 c2' K hsn hb3 su hTl hg11
    by_cases hE : rc = 0
    rotate_left
    · have hr2 : Hid (answerR sd h n ns lo hi = (([], 0, 0), [], rc)) := by show _ = _; rw [hr.out, if_neg hE]
      have hEb : (rc == 0) = false := by rw [beq_eq_false_iff_ne]; exact hE
      replace hE := Lib.hid hE
      clear b11 t1 t2
      obtain ⟨y0, y1, y2, f0, f1, f2⟩ := box3_cells x6
      go_wp2_with fail
      have k := box_set3 x6 (.slice none 0 0) (.int .i64 0) (.int .i64 0)
      have kb := Lib.hid (below_set3 hbw.out hg6.out (.slice none 0 0) (.int .i64 0) (.int .i64 0))
      clear y0 y1 y2 f0 f1 f2 x6
      generalize ((w3.setCell ⟨g6, 0, none⟩ (.slice none 0 0)).setCell ⟨g6, 1, none⟩ (.int .i64 0)).setCell ⟨g6, 2, none⟩ (.int .i64 0) = W9 at *
      obtain ⟨z0, z1, z2, -, -, -⟩ := box3_cells k
      refine bodyPost_ret (v := .tuple #[.agg #[.slice none 0 0, .int .i64 0, .int .i64 0], .slice none 0 0, .int .i64 rc]) (by simp [results, Tryz.results17, go_sem, z0, z1, z2]) rfl ?_
      exact answer_bad hr2.out kb.out
    subst hE
    have hr2 : Hid (answerR sd h n ns lo hi = ((rs, rh, rn), ansL ns rg T ns.length, 0)) := by show _ = _; rw [hr.out, if_pos rfl]
    have hrl2 := hrl.out rfl
    have hw3 : Hid (w.heap.size ≤ w3.heap.size) := by show _ ≤ _; exact hbw.out.size
    replace b11 := Lib.hid b11
    replace t1 := Lib.hid t1
    replace t2 := Lib.hid t2
    replace x6 := Lib.hid x6
    clear hr hrl
    go_wp2_with fail
    go_loopw [14, 48] (fun r t wr => ∃ k : Nat, k ≤ ns.length ∧ t = .int .i64 k ∧ Hid (OwnL wr w3.heap.size r (ansL ns rg T k)) ∧ Hid (Below w3.heap.size w3 wr)) (fun _ t _ => ns.length - (intOf t).toNat)
    case atStart => exact ⟨0, by omega, rfl, OwnL.nil _ _, Below.refl _ _⟩
    case round =>
      obtain ⟨k, hk, rfl, ho, hb⟩ := hrel
      obtain ⟨Ar, cr, rfl⟩ := ho.out.shape
      have hkl := ansL_len ns rg T k
      rw [hkl] at ho ⊢
      by_cases hlt : k < ns.length
      · have i0 : (k : Int) < (ns.length : Int) := by omega
        have hst := Lib.hid (ansL_next ns rg T k)
        have hab : Hid (ansB ns rg T k = encT (ansTags k ns.length (pathG (ns.map leafH) k).flatten rg T)) := rfl
        have hpt := path_top ns k wr.heap.size _ wr (seesL_of sn.out (Nat.le_refl _) hb.out) hlt (Nat.le_refl _) (by omega) (fun l hl => by rw [h32.out l hl]; omega)
        unfold PathPost at hpt
        obtain ⟨pl1, pl2, pl3⟩ := pathF_len ns k
        generalize pathG (ns.map leafH) k = PH at *
        have hPl : PH.flatten.length ≤ 512 := by omega
        have hjn := fun W u (hu : SeesL W W.heap.size u PH) => join_any W.heap.size u PH W hu (Nat.le_refl _) (by omega)
        generalize hPF : PH.flatten = PF at *
        replace hPF := Lib.hid hPF
        replace hjn := Lib.hid hjn
        replace hpt := Lib.hid hpt
        replace pl2 := Lib.hid pl2
        replace pl3 := Lib.hid pl3
        generalize ansL ns rg T k = acc at *
        have m1 : IntKind.u64.wrap (k : Int) = (k : Int) := by rw [IntKind.wrap_u64]; omega
        have m2 : IntKind.u64.wrap (ns.length : Int) = (ns.length : Int) := by rw [IntKind.wrap_u64]; omega
        have hp1 := Lib.hid (put4_any k (by omega))
        have hp2 := Lib.hid (put4_any ns.length (by omega))
        have hpd := Lib.hid (fun W u (hu : SeesB W W.heap.size u rg) => padded_any W.heap.size u rg W hu (Nat.le_refl _) (by omega))
        replace hkl := Lib.hid hkl
        go_wp2_with fail
        refine hpt.out.mono ?_
        rintro e w4 ⟨v4, rfl, o4, hb4⟩
        obtain ⟨A4, c4, rfl⟩ := o4.shape
        replace o4 := Lib.hid o4
        clear hpt
        dsimp only
        go_wp2_with fail
        refine (names_any w4).mono ?_
        rintro e w5 ⟨v5, rfl, s5, hb5⟩
        obtain ⟨A5, c5, rfl, -, -⟩ := s5.mk_
        replace s5 := Lib.hid s5
        dsimp only
        go_wp2_with fail
        refine (hp1.out w5).mono ?_
        rintro e w6 ⟨v6, rfl, o6, hb6⟩
        obtain ⟨A6, c6, rfl, -, -⟩ := o6.sees.mk_
        replace o6 := Lib.hid o6
        dsimp only
        go_wp2_with fail
        refine (hp2.out w6).mono ?_
        rintro e w7 ⟨v7, rfl, o7, hb7⟩
        obtain ⟨A7', c7', rfl, -, -⟩ := o7.sees.mk_
        have hb47 := bgo (bgo hb5 hb6) hb7
        replace o7 := Lib.hid o7
        have hjn7 := Lib.hid (hjn.out w7 _ (o4.out.sees.below hb47 |>.more hb47.size))
        dsimp only
        go_wp2_with fail
        refine hjn7.out.mono ?_
        rintro e w8 ⟨v8, rfl, o8, hb8⟩
        obtain ⟨A9, c9, rfl, -, -⟩ := o8.sees.mk_
        have hb38 := bgo hb.out (bgo hb4 (bgo hb47 hb8))
        have hpd8 := Lib.hid (hpd.out w8 _ (seesB_of t2.out (Nat.le_refl _) hb38))
        replace o8 := Lib.hid o8
        dsimp only
        go_wp2_with fail
        refine hpd8.out.mono ?_
        rintro e w9 ⟨v9, rfl, o9, hb9⟩
        obtain ⟨A10, c10, rfl, -, -⟩ := o9.sees.mk_
        have hb39 := bgo hb38 hb9
        have hal9 := balloc w9 (.cells #[.slice A6 (putB 4 k).length c6, .slice A7' (putB 4 ns.length).length c7', .slice A9 PF.length c9, .slice A10 (pad4 rg).length c10, .slice A7 T.length c7] 23)
        have e6 := seesB_of o6.out.sees (Nat.le_refl _) (bgo hb7 (bgo hb8 hb9))
        have e7 := seesB_of o7.out.sees (Nat.le_refl _) (bgo hb8 hb9)
        have e8 := seesB_of o8.out.sees (Nat.le_refl _) hb9
        have eT := seesB_of sp2.out (Nat.le_refl _) hb39
        have hL := seesL_lit w9 23 (vs := [.slice A6 (putB 4 k).length c6, .slice A7' (putB 4 ns.length).length c7', .slice A9 PF.length c9, .slice A10 (pad4 rg).length c10, .slice A7 T.length c7]) (ls := [putB 4 k, putB 4 ns.length, PF, pad4 rg, T]) ⟨e6, e7, e8, o9.sees, eT, trivial⟩ (by simp [maxLen])
        have s59 := (s5.out.below (bgo (bgo (bgo (bgo hb6 hb7) hb8) hb9) hal9)).more (bgo (bgo (bgo (bgo hb6 hb7) hb8) hb9) hal9).size
        have hms := message_any _ _ _ names5 [putB 4 k, putB 4 ns.length, PF, pad4 rg, T] _ s59 hL (Nat.le_refl _) rfl (by simp [names5]) (by
          have h1 := pad4_len rg
          have h2 := putB_len 4 k
          have h3 := putB_len 4 ns.length
          simp only [names5, List.zip_cons_cons, List.zip_nil_right, dataT, List.map_cons, List.map_nil, List.flatten_cons, List.flatten_nil, List.length_append, List.length_nil]
          omega)
        rw [ansTags_zip] at hms
        have hbr := Lib.hid (bgo hb39 hal9)
        have ho9 := ho.out.below (bgo (bgo (bgo (bgo hb4 hb47) hb8) hb9) hal9)
        replace ho9 := Lib.hid ho9
        replace hms := Lib.hid hms
        clear e6 e7 e8 eT hL s59 o4 s5 o6 o7 o8 o9 hb4 hb5 hb6 hb7 hb8 hb9 hb38 hb39 hb47 hjn hjn7 hpd hpd8 hp1 hp2 hal9
        dsimp only
        go_wp2_with fail
        refine hms.out.mono ?_
        rintro e w11 ⟨v11, rfl, o11, hb11⟩
        generalize encT (ansTags k ns.length PF rg T) = AB at *
        obtain ⟨A11, c11, rfl, -, -⟩ := o11.sees.mk_
        have ho4 := ho9.out.below hb11
        have hel := Elt.of_from (v := .slice Ar k cr) o11.sees o11.from (fun q hq => (ho9.out.lt q hq).2)
        have hal := balloc w11 (.cells #[.slice A11 AB.length c11] 23)
        have hbox := Lib.hid (one_cell w11 (.slice A11 AB.length c11) 23)
        replace ho4 := Lib.hid (ho4.below hal)
        have hel4 := Lib.hid (hel.below hal)
        have hb4 := Lib.hid (bgo (bgo hbr.out hb11) hal)
        clear hal hel o11 hb11 hbr hms ho9 ho
        dsimp only
        go_wp2_with (at_builtin; refine wpList_appL (by rfl) _ _ 35 Tryz.underlying35 rfl w3.heap.size _ acc rfl ho4.out _ _ _ AB rfl hbox.out hel4.out (by have := hkl.out; omega) hb4.out.size ?_)
        intro v' w' hW2 hb5
        have hW2 := Lib.hid hW2
        have hb5 := Lib.hid (hb4.out.trans hb5)
        go_wp2_with fail
        go_roundw
        case rel => exact ⟨k + 1, by omega, by go_num, by show OwnL _ _ _ _; rw [hst.out, hab.out]; exact hW2.out, hb5⟩
        case measure => simp [intOf]; omega
      · obtain rfl : k = ns.length := by omega
        have i0 : ¬ (ns.length : Int) < (ns.length : Int) := by omega
        have b11r := b11.out.below hb.out
        have t1r := Lib.hid (seesB_of t1.out (Nat.le_refl _) hb.out)
        have ta := Lib.hid (Elt.of_old (w := wr) (v := .slice Ar ns.length cr) (seesB_of t1.out (Nat.le_refl _) (Below.refl _ _) |>.below hb.out) hb.out.size (fun q hq => (ho.out.lt q hq).1)).2
        have x6r := x6.out.below hb.out
        replace hbw := Lib.hid (bgo hbw.out hb.out)
        replace hkl := Lib.hid hkl
        obtain ⟨e0, e1, e2, -, -, -⟩ := box3_cells b11r
        obtain ⟨y0, y1, y2, f0, f1, f2⟩ := box3_cells x6r
        go_wp2_with fail
        have k := box_set3 x6r (.slice A1 rs.length k1) (.int .i64 rh) (.int .i64 rn)
        have ks := Lib.hid (sees_set3 x6r (noBL3' (NoB.s none 0 0) (NoB.i 0) (NoB.i 0)) (.slice A1 rs.length k1) (.int .i64 rh) (.int .i64 rn) t1r.out)
        have ko := Lib.hid (own_set3 x6r q6.out (NoB.s none 0 0) (NoB.i 0) (NoB.i 0) (.slice A1 rs.length k1) (.int .i64 rh) (.int .i64 rn) (NoB.s _ _ _) (NoB.i _) ho.out)
        have kb := Lib.hid (below_set3 hbw.out hg6.out (.slice A1 rs.length k1) (.int .i64 rh) (.int .i64 rn))
        clear e0 e1 e2 y0 y1 y2 f0 f1 f2 x6r b11r
        generalize ((wr.setCell ⟨g6, 0, none⟩ (.slice A1 rs.length k1)).setCell ⟨g6, 1, none⟩ (.int .i64 rh)).setCell ⟨g6, 2, none⟩ (.int .i64 rn) = W9 at *
        obtain ⟨z0, z1, z2, -, -, -⟩ := box3_cells k
        refine bodyPost_ret (v := .tuple #[.agg #[.slice A1 rs.length k1, .int .i64 rh, .int .i64 rn], .slice Ar ns.length cr, .int .i64 0]) (by simp [results, Tryz.results17, go_sem, z0, z1, z2]) rfl ?_
        exact answer_ok hr2.out ks.out ta.out ko.out hw3.out kb.out
end
section
open Go.RowKit
set_option linter.unusedVariables false
set_option linter.unusedSimpArgs false
attribute [local go_sem ↓] Go.wp_at_zero Go.wp_at_succ
theorem inS_holds (lo hi f t : Int) : inS lo hi f t = (vS lo hi && ((vS f t && (decide (f ≤ lo) && decide (lo ≤ t))) && (vS f t && (decide (f ≤ hi) && decide (hi ≤ t))))) := by
  unfold inS
  cases h1 : vS lo hi with
  | false => rfl
  | true =>
    cases h2 : vS f t with
    | false => rfl
    | true =>
      rw [vS_eq] at h1 h2
      simp at h1 h2
      rw [Bool.eq_iff_iff]
      simp
      omega
set_option maxRecDepth 100000 in
theorem holds_any (lo hi t : Int) (w : World) :
    Calls Tryz.prog 49 #[.agg #[.int .i64 lo, .int .i64 hi], .int .i64 t] w (BoolPost (vS lo hi && (decide (lo ≤ t) && decide (t ≤ hi))) w) := by
  have hva := Lib.hid (fun W => valid_any lo hi W)
  have hal := Lib.hid (balloc w (.cells #[.int .i64 lo, .int .i64 hi] 40))
  have x2 := Box.new w 40 [.int .i64 lo, .int .i64 hi]
  change Box (w.alloc (.cells #[.int .i64 lo, .int .i64 hi] 40)) _ _ _ at x2
  go_enter Tryz.func49, Tryz.ntmps49
  go_upto_region 1 with (fail)
  generalize w.alloc (.cells #[.int .i64 lo, .int .i64 hi] 40) = W0 at *
  generalize hgg : w.heap.size = g2 at x2 ⊢
  replace hgg := Lib.hid hgg
  have y0 : W0.cell? ⟨g2, 0, none⟩ = some (.int .i64 lo) := x2.cell 0
  have y1 : W0.cell? ⟨g2, 1, none⟩ = some (.int .i64 hi) := x2.cell 1
  go_wp2_with fail
  refine (hva.out _).mono ?_
  rintro e w1 ⟨rfl, hb1⟩
  replace x2 := x2.below hb1
  clear y0 y1
  have y0 : w1.cell? ⟨g2, 0, none⟩ = some (.int .i64 lo) := x2.cell 0
  have y1 : w1.cell? ⟨g2, 1, none⟩ = some (.int .i64 hi) := x2.cell 1
  have hbw := Lib.hid (bgo hal.out hb1)
  clear x2 hb1
  dsimp only
  cases hv : vS lo hi with
  | false =>
    replace hv := Lib.hid hv
    clear y0 y1
    go_wp2_with fail
    go_ret
    exact ⟨ret_bool (by rw [hv.out]; rfl), hbw.out⟩
  | true =>
    replace hv := Lib.hid hv
    by_cases h1 : lo ≤ t
    · by_cases h2 : t ≤ hi
      · go_wp2_with fail
        go_ret
        exact ⟨ret_bool (by rw [hv.out]; simp [h1, h2]), hbw.out⟩
      · go_wp2_with fail
        go_ret
        exact ⟨ret_bool (by rw [hv.out]; simp [h1, h2]), hbw.out⟩
    · go_wp2_with fail
      go_ret
      exact ⟨ret_bool (by rw [hv.out, decide_eq_false (show ¬ lo ≤ t by omega)]; rfl), hbw.out⟩
set_option maxRecDepth 100000 in
theorem inside_any (lo hi f t : Int) (w : World) :
    Calls Tryz.prog 18 #[.agg #[.int .i64 lo, .int .i64 hi], .agg #[.int .i64 f, .int .i64 t]] w (BoolPost (inS lo hi f t) w) := by
  have hin := Lib.hid (inS_holds lo hi f t)
  have hva := Lib.hid (fun W => valid_any lo hi W)
  have hh1 := Lib.hid (fun W => holds_any f t lo W)
  have hh2 := Lib.hid (fun W => holds_any f t hi W)
  have hal := Lib.hid (bgo (balloc w (.cells #[.int .i64 lo, .int .i64 hi] 40)) (balloc _ (.cells #[.int .i64 f, .int .i64 t] 40)))
  have x2 := (Box.new w 40 [.int .i64 lo, .int .i64 hi]).below (balloc _ (.cells #[.int .i64 f, .int .i64 t] 40))
  have x3 := Box.new (w.alloc (.cells #[.int .i64 lo, .int .i64 hi] 40)) 40 [.int .i64 f, .int .i64 t]
  rw [World.size_alloc] at x3
  change Box ((w.alloc (.cells #[.int .i64 lo, .int .i64 hi] 40)).alloc (.cells #[.int .i64 f, .int .i64 t] 40)) _ _ _ at x2 x3
  go_enter Tryz.func18, Tryz.ntmps18
  go_upto_region 1 with (fail)
  generalize (w.alloc (.cells #[.int .i64 lo, .int .i64 hi] 40)).alloc (.cells #[.int .i64 f, .int .i64 t] 40) = W0 at *
  generalize hgg : w.heap.size = g2 at x2 x3 ⊢
  replace hgg := Lib.hid hgg
  obtain ⟨y0, y1⟩ := boxT2 x2
  go_wp2_with fail
  refine (hva.out _).mono ?_
  rintro e w1 ⟨rfl, hb1⟩
  replace x2 := x2.below hb1
  replace x3 := x3.below hb1
  have hbw := Lib.hid (bgo hal.out hb1)
  clear y0 y1 hb1 hva hal
  dsimp only
  cases hv : vS lo hi with
  | false =>
    rw [hv] at hin
    replace hv := Lib.hid hv
    clear x2 x3
    go_wp2_with fail
    go_ret
    exact ⟨ret_bool (by rw [hin.out]; rfl), hbw.out⟩
  | true =>
    rw [hv] at hin
    replace hv := Lib.hid hv
    obtain ⟨y0, y1⟩ := boxT2 x2
    obtain ⟨z0, z1⟩ := boxT2 x3
    generalize hA : (vS f t && (decide (f ≤ lo) && decide (lo ≤ t))) = A1 at *
    generalize hB : (vS f t && (decide (f ≤ hi) && decide (hi ≤ t))) = A2 at *
    replace hA := Lib.hid hA
    replace hB := Lib.hid hB
    go_wp2_with fail
    refine (hh1.out _).mono ?_
    rintro e w2 ⟨rfl, hb2⟩
    replace x2 := x2.below hb2
    replace x3 := x3.below hb2
    replace hbw := Lib.hid (bgo hbw.out hb2)
    clear y0 y1 z0 z1 hb2 hh1
    dsimp only
    cases A1 with
    | false =>
      clear x2 x3
      go_wp2_with fail
      go_ret
      exact ⟨ret_bool (by rw [hin.out]; rfl), hbw.out⟩
    | true =>
      obtain ⟨y0, y1⟩ := boxT2 x2
      obtain ⟨z0, z1⟩ := boxT2 x3
      go_wp2_with fail
      refine (hh2.out _).mono ?_
      rintro e w3 ⟨rfl, hb3⟩
      replace hbw := Lib.hid (bgo hbw.out hb3)
      clear y0 y1 z0 z1 hb3 hh2 x2 x3
      dsimp only
      go_wp2_with fail
      go_ret
      exact ⟨ret_bool (by rw [hin.out]; rfl), hbw.out⟩
end
section
open Go Go.RowKit
set_option linter.unusedVariables false
set_option linter.unusedSimpArgs false
attribute [local go_sem ↓] Go.wp_at_zero Go.wp_at_succ
theorem rgrant_ok {r : (Bs × Int × Int) × (Bs × Int × Int × Bs) × Int} {rs p rg : Bs} {rh rn f t : Int} (h : r = ((rs, rh, rn), (p, f, t, rg), 0)) {w W : World} {v1 v2 v3 : Value} (t1 : SeesB W W.heap.size v1 rs) (t2 : SeesB W W.heap.size v2 p) (t3 : SeesB W W.heap.size v3 rg) (hb : Below w.heap.size w W) : GrantP r w (.returned (.tuple #[.agg #[v1, .int .i64 rh, .int .i64 rn], .agg #[v2, .int .i64 f, .int .i64 t, v3], .int .i64 0])) W := by
  subst h
  exact ⟨_, _, _, rfl, t1, t2, t3, hb⟩
set_option maxRecDepth 100000 in
set_option maxHeartbeats 8000000 in
theorem rgrant_any (B : Nat) (u u2 : Value) (sd p : Bs) (h n f t : Int) (w : World) (hu : SeesB w B u sd) (hu2 : SeesB w B u2 p) (hB : B ≤ w.heap.size) (hp : p.length ≤ 65000) :
    Calls Tryz.prog 11 #[.agg #[u, .int .i64 h, .int .i64 n], u2, .int .i64 f, .int .i64 t] w (GrantP (grantR sd h n p f t) w) := by
  obtain ⟨As, cs, rfl, -, -⟩ := hu.mk_
  obtain ⟨Ap, cp, rfl, -, -⟩ := hu2.mk_
  have b1 := balloc w (.cells #[.slice As sd.length cs, .int .i64 h, .int .i64 n] 25)
  have b2 := bgo b1 (balloc _ (.cells #[.slice none 0 0, .int .i64 0, .int .i64 0] 25))
  have b3 := bgo b2 (balloc _ (.cells #[.slice none 0 0, .int .i64 0, .int .i64 0, .slice none 0 0] 27))
  have x4 := ((Box.new w 25 [.slice As sd.length cs, .int .i64 h, .int .i64 n]).below (balloc _ (.cells #[.slice none 0 0, .int .i64 0, .int .i64 0] 25))).below (balloc _ (.cells #[.slice none 0 0, .int .i64 0, .int .i64 0, .slice none 0 0] 27))
  have h8 := (Box.new (w.alloc (.cells #[.slice As sd.length cs, .int .i64 h, .int .i64 n] 25)) 25 [.slice none 0 0, .int .i64 0, .int .i64 0]).below (balloc _ (.cells #[.slice none 0 0, .int .i64 0, .int .i64 0, .slice none 0 0] 27))
  have h9 := Box.new ((w.alloc (.cells #[.slice As sd.length cs, .int .i64 h, .int .i64 n] 25)).alloc (.cells #[.slice none 0 0, .int .i64 0, .int .i64 0] 25)) 27 [.slice none 0 0, .int .i64 0, .int .i64 0, .slice none 0 0]
  rw [World.size_alloc] at h8
  rw [World.size_alloc, World.size_alloc] at h9
  have ss5 := seesB_of hu hB b3
  have sc5 := seesB_of hu2 hB b3
  have hg8 : w.heap.size ≤ w.heap.size + 1 := by omega
  have hg9 : w.heap.size ≤ w.heap.size + 1 + 1 := by omega
  have hne : w.heap.size + 1 ≠ w.heap.size + 1 + 1 := by omega
  replace hg8 := Lib.hid hg8
  replace hg9 := Lib.hid hg9
  replace hne := Lib.hid hne
  clear hu hu2 b1 b2
  go_enter Tryz.func11, Tryz.ntmps11
  go_upto_region 1 with (fail)
  change Box (((w.alloc (.cells #[.slice As sd.length cs, .int .i64 h, .int .i64 n] 25)).alloc (.cells #[.slice none 0 0, .int .i64 0, .int .i64 0] 25)).alloc (.cells #[.slice none 0 0, .int .i64 0, .int .i64 0, .slice none 0 0] 27)) _ _ _ at x4 h8 h9
  generalize ((w.alloc (.cells #[.slice As sd.length cs, .int .i64 h, .int .i64 n] 25)).alloc (.cells #[.slice none 0 0, .int .i64 0, .int .i64 0] 25)).alloc (.cells #[.slice none 0 0, .int .i64 0, .int .i64 0, .slice none 0 0] 27) = W5 at *
  have hbw := Lib.hid b3
  clear b3
  generalize hG9 : w.heap.size + 1 + 1 = g9 at *
  generalize hG8 : w.heap.size + 1 = g8 at *
  generalize hG4 : w.heap.size = g4 at x4 ⊢
  replace hG9 := Lib.hid hG9
  replace hG8 := Lib.hid hG8
  replace hG4 := Lib.hid hG4
  have hva := Lib.hid (rsvalid_any _ (.slice As sd.length cs) sd h n W5 ss5)
  have c0 := x4.cell 0
  have c1 := x4.cell 1
  have c2 := x4.cell 2
  simp only [List.getElem?_cons_zero, List.getElem?_cons_succ] at c0 c1 c2
  cases hV : validI sd h n with
  | false =>
    rw [hV] at hva
    have hr : Hid (grantR sd h n p f t = (([], 0, 0), ([], 0, 0, []), 3)) := by show _ = _; rw [grantR, hV]; rfl
    replace hV := Lib.hid hV
    clear ss5 sc5
    replace h8 := Lib.hid h8
    replace h9 := Lib.hid h9
    go_wp2_with fail
    refine hva.out.mono ?_
    rintro e w6 ⟨rfl, hb6⟩
    replace h8 := h8.out.below hb6
    replace h9 := h9.out.below hb6
    replace hbw := Lib.hid (bgo hbw.out hb6)
    clear c0 c1 c2 x4 hva
    dsimp only
    have y0 := h8.cell 0
    have y1 := h8.cell 1
    have y2 := h8.cell 2
    have y3 := (box_off3 h9 hne.out (.slice none 0 0) (.int .i64 0) (.int .i64 0)).cell 0
    have y4 := (box_off3 h9 hne.out (.slice none 0 0) (.int .i64 0) (.int .i64 0)).cell 1
    have y5 := (box_off3 h9 hne.out (.slice none 0 0) (.int .i64 0) (.int .i64 0)).cell 2
    have y6 := (box_off3 h9 hne.out (.slice none 0 0) (.int .i64 0) (.int .i64 0)).cell 3
    simp only [List.getElem?_cons_zero, List.getElem?_cons_succ] at y0 y1 y2 y3 y4 y5 y6
    have f0 := h8.frozen 0
    have f1 := h8.frozen 1
    have f2 := h8.frozen 2
    have f3 := (box_off3 h9 hne.out (.slice none 0 0) (.int .i64 0) (.int .i64 0)).frozen 0
    have f4 := (box_off3 h9 hne.out (.slice none 0 0) (.int .i64 0) (.int .i64 0)).frozen 1
    have f5 := (box_off3 h9 hne.out (.slice none 0 0) (.int .i64 0) (.int .i64 0)).frozen 2
    have f6 := (box_off3 h9 hne.out (.slice none 0 0) (.int .i64 0) (.int .i64 0)).frozen 3
    go_wp2_with fail
    obtain ⟨k8, k9, kb⟩ := set34 h8 h9 (hne.out) (.slice none 0 0) (.int .i64 0) (.int .i64 0) (.slice none 0 0) (.int .i64 0) (.int .i64 0) (.slice none 0 0)
    replace kb := Lib.hid (kb w hbw.out hg8.out hg9.out)
    clear y0 y1 y2 y3 y4 y5 y6 f0 f1 f2 f3 f4 f5 f6 h8 h9
    generalize ((((((w6.setCell ⟨g8, 0, none⟩ (.slice none 0 0)).setCell ⟨g8, 1, none⟩ (.int .i64 0)).setCell ⟨g8, 2, none⟩ (.int .i64 0)).setCell ⟨g9, 0, none⟩ (.slice none 0 0)).setCell ⟨g9, 1, none⟩ (.int .i64 0)).setCell ⟨g9, 2, none⟩ (.int .i64 0)).setCell ⟨g9, 3, none⟩ (.slice none 0 0) = W9 at *
    have z0 : W9.cell? ⟨g8, 0, none⟩ = some (.slice none 0 0) := k8.cell 0
    have z1 : W9.cell? ⟨g8, 1, none⟩ = some (.int .i64 0) := k8.cell 1
    have z2 : W9.cell? ⟨g8, 2, none⟩ = some (.int .i64 0) := k8.cell 2
    have z3 : W9.cell? ⟨g9, 0, none⟩ = some (.slice none 0 0) := k9.cell 0
    have z4 : W9.cell? ⟨g9, 1, none⟩ = some (.int .i64 0) := k9.cell 1
    have z5 : W9.cell? ⟨g9, 2, none⟩ = some (.int .i64 0) := k9.cell 2
    have z6 : W9.cell? ⟨g9, 3, none⟩ = some (.slice none 0 0) := k9.cell 3
    refine bodyPost_ret (v := .tuple #[.agg #[.slice none 0 0, .int .i64 0, .int .i64 0], .agg #[.slice none 0 0, .int .i64 0, .int .i64 0, .slice none 0 0], .int .i64 3]) (by simp [results, Tryz.results11, go_sem, z0, z1, z2, z3, z4, z5, z6]) rfl ?_
    exact grant_bad hr.out kb.out
  | true =>
    rw [hV] at hva
    replace h8 := Lib.hid h8
    replace h9 := Lib.hid h9
    replace ss5 := Lib.hid ss5
    replace sc5 := Lib.hid sc5
    go_wp2_with fail
    refine hva.out.mono ?_
    rintro e w6 ⟨rfl, hb6⟩
    replace h8 := Lib.hid (h8.out.below hb6)
    replace h9 := Lib.hid (h9.out.below hb6)
    replace x4 := x4.below hb6
    replace ss5 := Lib.hid (seesB_of ss5.out (Nat.le_refl _) hb6)
    replace sc5 := Lib.hid (seesB_of sc5.out (Nat.le_refl _) hb6)
    replace hbw := Lib.hid (bgo hbw.out hb6)
    clear c0 c1 c2 hva hb6
    dsimp only
    by_cases hp32 : p.length = 32
    · have ip : ((p.length : Int) != 32) = false := by simp; omega
      replace hp32 := Lib.hid hp32
      have hvl := Lib.hid (fun W => rvalid_any f t W)
      go_wp2_with fail
      refine (hvl.out _).mono ?_
      rintro e w8 ⟨rfl, hb68⟩
      replace h8 := Lib.hid (h8.out.below hb68)
      replace h9 := Lib.hid (h9.out.below hb68)
      replace x4 := x4.below hb68
      replace ss5 := Lib.hid (seesB_of ss5.out (Nat.le_refl _) hb68)
      replace sc5 := Lib.hid (seesB_of sc5.out (Nat.le_refl _) hb68)
      replace hbw := Lib.hid (bgo hbw.out hb68)
      clear hvl hb68
      dsimp only
      cases hv : vS f t with
      | false =>
        have hr : Hid (grantR sd h n p f t = (([], 0, 0), ([], 0, 0, []), 3)) := by show _ = _; rw [grantR, if_pos hV, if_pos hp32.out, hv]; rfl
        replace hV := Lib.hid hV
        replace hv := Lib.hid hv
        replace h8 := h8.out
        replace h9 := h9.out
        clear x4 ss5 sc5
        have y0 := h8.cell 0
        have y1 := h8.cell 1
        have y2 := h8.cell 2
        have y3 := (box_off3 h9 hne.out (.slice none 0 0) (.int .i64 0) (.int .i64 0)).cell 0
        have y4 := (box_off3 h9 hne.out (.slice none 0 0) (.int .i64 0) (.int .i64 0)).cell 1
        have y5 := (box_off3 h9 hne.out (.slice none 0 0) (.int .i64 0) (.int .i64 0)).cell 2
        have y6 := (box_off3 h9 hne.out (.slice none 0 0) (.int .i64 0) (.int .i64 0)).cell 3
        simp only [List.getElem?_cons_zero, List.getElem?_cons_succ] at y0 y1 y2 y3 y4 y5 y6
        have f0 := h8.frozen 0
        have f1 := h8.frozen 1
        have f2 := h8.frozen 2
        have f3 := (box_off3 h9 hne.out (.slice none 0 0) (.int .i64 0) (.int .i64 0)).frozen 0
        have f4 := (box_off3 h9 hne.out (.slice none 0 0) (.int .i64 0) (.int .i64 0)).frozen 1
        have f5 := (box_off3 h9 hne.out (.slice none 0 0) (.int .i64 0) (.int .i64 0)).frozen 2
        have f6 := (box_off3 h9 hne.out (.slice none 0 0) (.int .i64 0) (.int .i64 0)).frozen 3
        go_wp2_with fail
        obtain ⟨k8, k9, kb⟩ := set34 h8 h9 (hne.out) (.slice none 0 0) (.int .i64 0) (.int .i64 0) (.slice none 0 0) (.int .i64 0) (.int .i64 0) (.slice none 0 0)
        replace kb := Lib.hid (kb w hbw.out hg8.out hg9.out)
        clear y0 y1 y2 y3 y4 y5 y6 f0 f1 f2 f3 f4 f5 f6 h8 h9
        generalize ((((((w8.setCell ⟨g8, 0, none⟩ (.slice none 0 0)).setCell ⟨g8, 1, none⟩ (.int .i64 0)).setCell ⟨g8, 2, none⟩ (.int .i64 0)).setCell ⟨g9, 0, none⟩ (.slice none 0 0)).setCell ⟨g9, 1, none⟩ (.int .i64 0)).setCell ⟨g9, 2, none⟩ (.int .i64 0)).setCell ⟨g9, 3, none⟩ (.slice none 0 0) = W9 at *
        have z0 : W9.cell? ⟨g8, 0, none⟩ = some (.slice none 0 0) := k8.cell 0
        have z1 : W9.cell? ⟨g8, 1, none⟩ = some (.int .i64 0) := k8.cell 1
        have z2 : W9.cell? ⟨g8, 2, none⟩ = some (.int .i64 0) := k8.cell 2
        have z3 : W9.cell? ⟨g9, 0, none⟩ = some (.slice none 0 0) := k9.cell 0
        have z4 : W9.cell? ⟨g9, 1, none⟩ = some (.int .i64 0) := k9.cell 1
        have z5 : W9.cell? ⟨g9, 2, none⟩ = some (.int .i64 0) := k9.cell 2
        have z6 : W9.cell? ⟨g9, 3, none⟩ = some (.slice none 0 0) := k9.cell 3
        refine bodyPost_ret (v := .tuple #[.agg #[.slice none 0 0, .int .i64 0, .int .i64 0], .agg #[.slice none 0 0, .int .i64 0, .int .i64 0, .slice none 0 0], .int .i64 3]) (by simp [results, Tryz.results11, go_sem, z0, z1, z2, z3, z4, z5, z6]) rfl ?_
        exact grant_bad hr.out kb.out
      | true =>
        have hr : Hid (grantR sd h n p f t = if (signAll sd h n (tGrant ++ p ++ spanB f t)).2.2.2.2 = 0 then
          (((signAll sd h n (tGrant ++ p ++ spanB f t)).1, (signAll sd h n (tGrant ++ p ++ spanB f t)).2.1, (signAll sd h n (tGrant ++ p ++ spanB f t)).2.2.1), (p, f, t, (signAll sd h n (tGrant ++ p ++ spanB f t)).2.2.2.1), 0)
          else (([], 0, 0), ([], 0, 0, []), (signAll sd h n (tGrant ++ p ++ spanB f t)).2.2.2.2)) := by show _ = _; rw [grantR, if_pos hV, if_pos hp32.out, if_pos hv]
        have hsg := fun (W : World) (hW : Below w8.heap.size w8 W) => rtext_any W.heap.size (.slice Ap p.length cp) p f t W (seesB_of sc5.out (Nat.le_refl _) hW) (Nat.le_refl _) (by omega)
        have hm : (tGrant ++ p ++ spanB f t).length ≤ 65535 := by rw [List.length_append, List.length_append]; have := hp32.out; simp [tGrant, spanB, putB_len]; omega
        have hsn := fun (W : World) (v : Value) (hW : Below w8.heap.size w8 W) (hv : SeesB W W.heap.size v (tGrant ++ p ++ spanB f t)) => rsign_all W.heap.size (.slice As sd.length cs) v sd (tGrant ++ p ++ spanB f t) h n W (seesB_of ss5.out (Nat.le_refl _) hW) hv (Nat.le_refl _) hm
        generalize tGrant ++ p ++ spanB f t = M at *
        generalize hsa : signAll sd h n M = r at *
        replace hsa := Lib.hid hsa
        replace hm := Lib.hid hm
        obtain ⟨rs, rh, rn, rg, rc⟩ := r
        dsimp only at hr
        unfold SignPost at hsn
        dsimp only at hsn
        have hs1 := Lib.hid (hsg w8.drew (bdrew w8))
        have hs2 := Lib.hid (hsg (w8.alloc (.cells #[.slice none 0 0, .int .i64 0, .int .i64 0] 25)).drew (bgo (balloc w8 _) (bdrew _)))
        clear hsg
        replace hsn := Lib.hid hsn
        have K : Hid (∀ W : World, Below w8.heap.size w8 W → W.cell? ⟨g4, 0, none⟩ = some (.slice As sd.length cs) ∧ W.cell? ⟨g4, 1, none⟩ = some (.int .i64 h) ∧ W.cell? ⟨g4, 2, none⟩ = some (.int .i64 n)) := fun W hW => ⟨(x4.below hW).cell 0, (x4.below hW).cell 1, (x4.below hW).cell 2⟩
        obtain ⟨c0, c1, c2⟩ := K.out w8 (Below.refl _ _)
        replace hV := Lib.hid hV
        replace hv := Lib.hid hv
        clear ip
        go_wp2_with fail
        go_cut [11, 12, 13] (fun v12 v13 v14 W => SgnR w8 rs rh rn rg rc v12 v13 v14 W)
        case first =>
          go_region_held3 (fun W' : World => W'.cell? ⟨g4, 0, none⟩ = some (.slice As sd.length cs) ∧ W'.cell? ⟨g4, 1, none⟩ = some (.int .i64 h) ∧ W'.cell? ⟨g4, 2, none⟩ = some (.int .i64 n))
            (first | (with_reducible exact K.out _ hb10) | (with_reducible exact K.out _ (below_set3 hb10 hz9 _ _ _)) | (with_reducible exact K.out _ hb9) | exact K.out _ (by (repeat (first | exact Below.refl _ _ | (refine bgo ?_ (balloc _ _)) | (refine bgo ?_ (bdrew _)) | (refine bgo ?_ (by assumption))))) | (go_keep; done))
            (first
              | (go_at_call 30; (with_reducible refine (hsn.out (w9.alloc (.cells #[.slice none 0 0, .int .i64 0, .int .i64 0] 25)) _ (bgo hb9 (balloc w9 _)) (seesB_of s9 (Nat.le_refl _) (balloc w9 _))).mono ?_); rintro e w10 ⟨v1, v2, rfl, t1, t2, hb10⟩
                 obtain ⟨A1, k1, rfl, -, -⟩ := t1.mk_
                 obtain ⟨A2, k2, rfl, -, -⟩ := t2.mk_
                 have bz := (Box.new w9 25 [.slice none 0 0, .int .i64 0, .int .i64 0]).below hb10
                 replace hb10 := bgo (bgo hb9 (balloc w9 _)) hb10
                 have hz9 := hb9.size
                 obtain ⟨e0, e1, e2, j0, j1, j2⟩ := box3_cells bz)
              | (go_at_call 30; have _q := bz9; (with_reducible refine (hsn.out w9 _ hb9 s9).mono ?_); rintro e w10 ⟨v1, v2, rfl, t1, t2, hb10⟩
                 obtain ⟨A1, k1, rfl, -, -⟩ := t1.mk_
                 obtain ⟨A2, k2, rfl, -, -⟩ := t2.mk_
                 have bz := bz9.below hb10
                 replace hb10 := bgo hb9 hb10
                 have hz9 := Nat.le_refl w8.heap.size
                 obtain ⟨e0, e1, e2, j0, j1, j2⟩ := box3_cells bz)
              | (go_at_call 30; (with_reducible refine (hsn.out w9 _ hb9 s9).mono ?_); rintro e w10 ⟨v1, v2, rfl, t1, t2, hb10⟩
                 obtain ⟨A1, k1, rfl, -, -⟩ := t1.mk_
                 obtain ⟨A2, k2, rfl, -, -⟩ := t2.mk_
                 replace hb10 := bgo hb9 hb10)
              | (go_at_call 31; (with_reducible refine hs1.out.mono ?_); rintro e w9 ⟨v9, rfl, f9, hb9⟩
                 replace hb9 := bgo (bdrew w8) hb9
                 have s9 := f9.sees
                 obtain ⟨A9, k9, rfl, -, -⟩ := f9.sees.mk_)
              | (go_at_call 31; (with_reducible refine hs2.out.mono ?_); rintro e w9 ⟨v9, rfl, f9, hb9⟩
                 have bz9 := ((Box.new w8 25 [.slice none 0 0, .int .i64 0, .int .i64 0]).below (bdrew _)).below hb9
                 replace hb9 := bgo (bgo (balloc w8 _) (bdrew _)) hb9
                 have s9 := f9.sees
                 obtain ⟨A9, k9, rfl, -, -⟩ := f9.sees.mk_))
          all_goals
            go_wp2_with fail
            go_meet
            first
              | (with_reducible exact sgn_new w8 w10 _ _ _ _ _ _ _ _ _ t1 t2 hb10)
              | (with_reducible exact sgn_set w8 w10 _ _ _ _ _ _ _ _ _ _ bz t1 t2 hz9 hb10)
        case rest =>
          obtain ⟨g12, A1, k1, A2, k2, rfl, rfl, rfl, b12, t1, t2, hg12, hb12⟩ := hcut
          obtain ⟨w10, rfl⟩ : ∃ w10 : World, w10 = wc := ⟨_, rfl⟩
          have q8 : g8 < w8.heap.size := h8.out.lt
          have q9 : g9 < w8.heap.size := h9.out.lt
          replace h8 := h8.out.below hb12
          replace h9 := h9.out.below hb12
          replace sc5 := seesB_of sc5.out (Nat.le_refl _) hb12
          replace hbw := Lib.hid (bgo hbw.out hb12)
          have n4 : g12 ≠ g8 := by omega
          have n5 : g12 ≠ g9 := by omega
          replace n4 := Lib.hid n4
          replace n5 := Lib.hid n5
          clear c0 c1 c2 K hs1 hs2 hsn x4 ss5 q8 q9
          by_cases hE : rc = 0
          · subst hE
            have hr2 : Hid (grantR sd h n p f t = ((rs, rh, rn), (p, f, t, rg), 0)) := by show _ = _; rw [hr.out, if_pos rfl]
            have hal := bgo (balloc w10 (.cells #[.slice Ap p.length cp] 23)) (bdrew _)
            have hj : Calls Tryz.prog 14 #[.slice (some ⟨w10.heap.size, 0, none⟩) 1 1] (w10.alloc (.cells #[.slice Ap p.length cp] 23)).drew fun e w' => ∃ v, e = .returned v ∧ OwnB w' w10.heap.size v [p].flatten ∧ Below w10.heap.size w10 w' :=
              rjoin_lit (vs := [.slice Ap p.length cp]) [p] w10 w10.drew w10.heap.size rfl (bdrew w10) ⟨seesB_of sc5 (Nat.le_refl _) (bdrew w10), trivial⟩ (by simp) (by simp; omega)
            rw [show [p].flatten = p by simp] at hj
            replace hj := Lib.hid hj
            have K : Hid (∀ W : World, Below w10.heap.size w10 W → W.cell? ⟨g12, 0, none⟩ = some (.slice A1 rs.length k1) ∧ W.cell? ⟨g12, 1, none⟩ = some (.int .i64 rh) ∧ W.cell? ⟨g12, 2, none⟩ = some (.int .i64 rn)) := fun W hW => ⟨(b12.below hW).cell 0, (b12.below hW).cell 1, (b12.below hW).cell 2⟩
            obtain ⟨c0, c1, c2⟩ := K.out w10 (Below.refl _ _)
            replace h8 := Lib.hid h8
            replace h9 := Lib.hid h9
            replace b12 := Lib.hid b12
            replace t1 := Lib.hid t1
            replace t2 := Lib.hid t2
            clear sc5 hr hal
            go_wp2_with fail
            go_region_held3 (fun W' : World => W'.cell? ⟨g12, 0, none⟩ = some (.slice A1 rs.length k1) ∧ W'.cell? ⟨g12, 1, none⟩ = some (.int .i64 rh) ∧ W'.cell? ⟨g12, 2, none⟩ = some (.int .i64 rn))
              (first | (with_reducible exact KAB.out) | (with_reducible exact KA.out) | (with_reducible exact K0.out) | exact K.out _ (by (repeat (first | exact Below.refl _ _ | (refine bgo ?_ (balloc _ _)) | (refine bgo ?_ (bdrew _)) | (refine bgo ?_ (by assumption))))))
              (first
                | (go_at_call 14; (with_reducible refine hj.out.mono ?_); rintro e w11 ⟨vc, rfl, fc, hb11⟩
                   have tc := fc.sees
                   obtain ⟨Ac, cc, rfl, -, -⟩ := fc.sees.mk_
                   have K0 := Lib.hid (K.out w11 hb11)
                   have i8 := Lib.hid (h8.out.below hb11)
                   have i9 := Lib.hid (h9.out.below hb11)
                   have i12 := Lib.hid (b12.out.below hb11)
                   have t1' := seesB_of t1.out (Nat.le_refl _) hb11
                   have t2' := seesB_of t2.out (Nat.le_refl _) hb11
                   obtain ⟨p8, p9, pb⟩ := set34 i8.out i9.out hne.out (.slice A1 rs.length k1) (.int .i64 rh) (.int .i64 rn) (.slice Ac p.length cc) (.int .i64 f) (.int .i64 t) (.slice A2 rg.length k2)
                   have n8 := noBL3' (NoB.s none 0 0) (NoB.i 0) (NoB.i 0)
                   have n9 := noBL4 (NoB.s none 0 0) (NoB.i 0) (NoB.i 0) (NoB.s none 0 0)
                   have pt1 := Lib.hid (sees34 i8.out i9.out n8 n9 hne.out (.slice A1 rs.length k1) (.int .i64 rh) (.int .i64 rn) (.slice Ac p.length cc) (.int .i64 f) (.int .i64 t) (.slice A2 rg.length k2) t1')
                   have pt2 := Lib.hid (sees34 i8.out i9.out n8 n9 hne.out (.slice A1 rs.length k1) (.int .i64 rh) (.int .i64 rn) (.slice Ac p.length cc) (.int .i64 f) (.int .i64 t) (.slice A2 rg.length k2) t2')
                   have pt3 := Lib.hid (sees34 i8.out i9.out n8 n9 hne.out (.slice A1 rs.length k1) (.int .i64 rh) (.int .i64 rn) (.slice Ac p.length cc) (.int .i64 f) (.int .i64 t) (.slice A2 rg.length k2) tc)
                   replace pb := Lib.hid (pb w (bgo hbw.out hb11) hg8.out hg9.out)
                   have a12 : Box (((w11.setCell ⟨g8, 0, none⟩ (.slice A1 rs.length k1)).setCell ⟨g8, 1, none⟩ (.int .i64 rh)).setCell ⟨g8, 2, none⟩ (.int .i64 rn)) g12 25 [.slice A1 rs.length k1, .int .i64 rh, .int .i64 rn] := ((i12.out.other n4.out).other n4.out).other n4.out
                   have a9 : Box (((w11.setCell ⟨g8, 0, none⟩ (.slice A1 rs.length k1)).setCell ⟨g8, 1, none⟩ (.int .i64 rh)).setCell ⟨g8, 2, none⟩ (.int .i64 rn)) g9 27 [.slice none 0 0, .int .i64 0, .int .i64 0, .slice none 0 0] := box_off3 i9.out hne.out (.slice A1 rs.length k1) (.int .i64 rh) (.int .i64 rn)
                   have ab12 : Box (((((((w11.setCell ⟨g8, 0, none⟩ (.slice A1 rs.length k1)).setCell ⟨g8, 1, none⟩ (.int .i64 rh)).setCell ⟨g8, 2, none⟩ (.int .i64 rn)).setCell ⟨g9, 0, none⟩ (.slice Ac p.length cc)).setCell ⟨g9, 1, none⟩ (.int .i64 f)).setCell ⟨g9, 2, none⟩ (.int .i64 t)).setCell ⟨g9, 3, none⟩ (.slice A2 rg.length k2)) g12 25 [.slice A1 rs.length k1, .int .i64 rh, .int .i64 rn] := (((a12.other n5.out).other n5.out).other n5.out).other n5.out
                   have KA : Hid ((((w11.setCell ⟨g8, 0, none⟩ (.slice A1 rs.length k1)).setCell ⟨g8, 1, none⟩ (.int .i64 rh)).setCell ⟨g8, 2, none⟩ (.int .i64 rn)).cell? ⟨g12, 0, none⟩ = some (.slice A1 rs.length k1) ∧ (((w11.setCell ⟨g8, 0, none⟩ (.slice A1 rs.length k1)).setCell ⟨g8, 1, none⟩ (.int .i64 rh)).setCell ⟨g8, 2, none⟩ (.int .i64 rn)).cell? ⟨g12, 1, none⟩ = some (.int .i64 rh) ∧ (((w11.setCell ⟨g8, 0, none⟩ (.slice A1 rs.length k1)).setCell ⟨g8, 1, none⟩ (.int .i64 rh)).setCell ⟨g8, 2, none⟩ (.int .i64 rn)).cell? ⟨g12, 2, none⟩ = some (.int .i64 rn)) := ⟨a12.cell 0, a12.cell 1, a12.cell 2⟩
                   have KAB : Hid ((((((((w11.setCell ⟨g8, 0, none⟩ (.slice A1 rs.length k1)).setCell ⟨g8, 1, none⟩ (.int .i64 rh)).setCell ⟨g8, 2, none⟩ (.int .i64 rn)).setCell ⟨g9, 0, none⟩ (.slice Ac p.length cc)).setCell ⟨g9, 1, none⟩ (.int .i64 f)).setCell ⟨g9, 2, none⟩ (.int .i64 t)).setCell ⟨g9, 3, none⟩ (.slice A2 rg.length k2)).cell? ⟨g12, 0, none⟩ = some (.slice A1 rs.length k1) ∧ (((((((w11.setCell ⟨g8, 0, none⟩ (.slice A1 rs.length k1)).setCell ⟨g8, 1, none⟩ (.int .i64 rh)).setCell ⟨g8, 2, none⟩ (.int .i64 rn)).setCell ⟨g9, 0, none⟩ (.slice Ac p.length cc)).setCell ⟨g9, 1, none⟩ (.int .i64 f)).setCell ⟨g9, 2, none⟩ (.int .i64 t)).setCell ⟨g9, 3, none⟩ (.slice A2 rg.length k2)).cell? ⟨g12, 1, none⟩ = some (.int .i64 rh) ∧ (((((((w11.setCell ⟨g8, 0, none⟩ (.slice A1 rs.length k1)).setCell ⟨g8, 1, none⟩ (.int .i64 rh)).setCell ⟨g8, 2, none⟩ (.int .i64 rn)).setCell ⟨g9, 0, none⟩ (.slice Ac p.length cc)).setCell ⟨g9, 1, none⟩ (.int .i64 f)).setCell ⟨g9, 2, none⟩ (.int .i64 t)).setCell ⟨g9, 3, none⟩ (.slice A2 rg.length k2)).cell? ⟨g12, 2, none⟩ = some (.int .i64 rn)) := ⟨ab12.cell 0, ab12.cell 1, ab12.cell 2⟩
                   obtain ⟨o0, o1, o2, o3, o4, o5⟩ := box3_cells i8.out
                   obtain ⟨s6, s7, s8, s9, s10, s11, s12, s13⟩ := box4_cells a9
                   replace p8 := Lib.hid p8
                   replace p9 := Lib.hid p9
                   clear a12 a9 ab12 n8 n9 t1' t2' tc fc))
            all_goals
              clear K0 KA KAB o0 o1 o2 o3 o4 o5 s6 s7 s8 s9 s10 s11 s12 s13 c0 c1 c2
              go_wp2_with fail
              generalize ((((((w11.setCell ⟨g8, 0, none⟩ (.slice A1 rs.length k1)).setCell ⟨g8, 1, none⟩ (.int .i64 rh)).setCell ⟨g8, 2, none⟩ (.int .i64 rn)).setCell ⟨g9, 0, none⟩ (.slice Ac p.length cc)).setCell ⟨g9, 1, none⟩ (.int .i64 f)).setCell ⟨g9, 2, none⟩ (.int .i64 t)).setCell ⟨g9, 3, none⟩ (.slice A2 rg.length k2) = W9 at *
              have z0 := p8.out.cell 0
              have z1 := p8.out.cell 1
              have z2 := p8.out.cell 2
              have z3 := p9.out.cell 0
              have z4 := p9.out.cell 1
              have z5 := p9.out.cell 2
              have z6 := p9.out.cell 3
              simp only [List.getElem?_cons_zero, List.getElem?_cons_succ] at z0 z1 z2 z3 z4 z5 z6
              refine bodyPost_ret (v := .tuple #[.agg #[.slice A1 rs.length k1, .int .i64 rh, .int .i64 rn], .agg #[.slice Ac p.length cc, .int .i64 f, .int .i64 t, .slice A2 rg.length k2], .int .i64 0]) (by simp [results, Tryz.results11, go_sem, z0, z1, z2, z3, z4, z5, z6]) rfl ?_
              exact rgrant_ok hr2.out pt1.out pt3.out pt2.out pb.out
          · have hr2 : Hid (grantR sd h n p f t = (([], 0, 0), ([], 0, 0, []), rc)) := by show _ = _; rw [hr.out, if_neg hE]
            have hEb : (rc == 0) = false := by rw [beq_eq_false_iff_ne]; exact hE
            clear b12 t1 t2 sc5
            have y0 := h8.cell 0
            have y1 := h8.cell 1
            have y2 := h8.cell 2
            have y3 := (box_off3 h9 hne.out (.slice none 0 0) (.int .i64 0) (.int .i64 0)).cell 0
            have y4 := (box_off3 h9 hne.out (.slice none 0 0) (.int .i64 0) (.int .i64 0)).cell 1
            have y5 := (box_off3 h9 hne.out (.slice none 0 0) (.int .i64 0) (.int .i64 0)).cell 2
            have y6 := (box_off3 h9 hne.out (.slice none 0 0) (.int .i64 0) (.int .i64 0)).cell 3
            simp only [List.getElem?_cons_zero, List.getElem?_cons_succ] at y0 y1 y2 y3 y4 y5 y6
            have f0 := h8.frozen 0
            have f1 := h8.frozen 1
            have f2 := h8.frozen 2
            have f3 := (box_off3 h9 hne.out (.slice none 0 0) (.int .i64 0) (.int .i64 0)).frozen 0
            have f4 := (box_off3 h9 hne.out (.slice none 0 0) (.int .i64 0) (.int .i64 0)).frozen 1
            have f5 := (box_off3 h9 hne.out (.slice none 0 0) (.int .i64 0) (.int .i64 0)).frozen 2
            have f6 := (box_off3 h9 hne.out (.slice none 0 0) (.int .i64 0) (.int .i64 0)).frozen 3
            go_wp2_with fail
            obtain ⟨k8, k9, kb⟩ := set34 h8 h9 (hne.out) (.slice none 0 0) (.int .i64 0) (.int .i64 0) (.slice none 0 0) (.int .i64 0) (.int .i64 0) (.slice none 0 0)
            replace kb := Lib.hid (kb w hbw.out hg8.out hg9.out)
            clear y0 y1 y2 y3 y4 y5 y6 f0 f1 f2 f3 f4 f5 f6 h8 h9
            generalize ((((((w10.setCell ⟨g8, 0, none⟩ (.slice none 0 0)).setCell ⟨g8, 1, none⟩ (.int .i64 0)).setCell ⟨g8, 2, none⟩ (.int .i64 0)).setCell ⟨g9, 0, none⟩ (.slice none 0 0)).setCell ⟨g9, 1, none⟩ (.int .i64 0)).setCell ⟨g9, 2, none⟩ (.int .i64 0)).setCell ⟨g9, 3, none⟩ (.slice none 0 0) = W9 at *
            have z0 : W9.cell? ⟨g8, 0, none⟩ = some (.slice none 0 0) := k8.cell 0
            have z1 : W9.cell? ⟨g8, 1, none⟩ = some (.int .i64 0) := k8.cell 1
            have z2 : W9.cell? ⟨g8, 2, none⟩ = some (.int .i64 0) := k8.cell 2
            have z3 : W9.cell? ⟨g9, 0, none⟩ = some (.slice none 0 0) := k9.cell 0
            have z4 : W9.cell? ⟨g9, 1, none⟩ = some (.int .i64 0) := k9.cell 1
            have z5 : W9.cell? ⟨g9, 2, none⟩ = some (.int .i64 0) := k9.cell 2
            have z6 : W9.cell? ⟨g9, 3, none⟩ = some (.slice none 0 0) := k9.cell 3
            refine bodyPost_ret (v := .tuple #[.agg #[.slice none 0 0, .int .i64 0, .int .i64 0], .agg #[.slice none 0 0, .int .i64 0, .int .i64 0, .slice none 0 0], .int .i64 rc]) (by simp [results, Tryz.results11, go_sem, z0, z1, z2, z3, z4, z5, z6]) rfl ?_
            exact grant_bad hr2.out kb.out
    · have ip : ((p.length : Int) != 32) = true := by simp; omega
      have hr : Hid (grantR sd h n p f t = (([], 0, 0), ([], 0, 0, []), 5)) := by show _ = _; rw [grantR, if_pos hV, if_neg hp32]
      replace hV := Lib.hid hV
      replace hp32 := Lib.hid hp32
      replace h8 := h8.out
      replace h9 := h9.out
      clear x4 ss5 sc5
      have y0 := h8.cell 0
      have y1 := h8.cell 1
      have y2 := h8.cell 2
      have y3 := (box_off3 h9 hne.out (.slice none 0 0) (.int .i64 0) (.int .i64 0)).cell 0
      have y4 := (box_off3 h9 hne.out (.slice none 0 0) (.int .i64 0) (.int .i64 0)).cell 1
      have y5 := (box_off3 h9 hne.out (.slice none 0 0) (.int .i64 0) (.int .i64 0)).cell 2
      have y6 := (box_off3 h9 hne.out (.slice none 0 0) (.int .i64 0) (.int .i64 0)).cell 3
      simp only [List.getElem?_cons_zero, List.getElem?_cons_succ] at y0 y1 y2 y3 y4 y5 y6
      have f0 := h8.frozen 0
      have f1 := h8.frozen 1
      have f2 := h8.frozen 2
      have f3 := (box_off3 h9 hne.out (.slice none 0 0) (.int .i64 0) (.int .i64 0)).frozen 0
      have f4 := (box_off3 h9 hne.out (.slice none 0 0) (.int .i64 0) (.int .i64 0)).frozen 1
      have f5 := (box_off3 h9 hne.out (.slice none 0 0) (.int .i64 0) (.int .i64 0)).frozen 2
      have f6 := (box_off3 h9 hne.out (.slice none 0 0) (.int .i64 0) (.int .i64 0)).frozen 3
      go_wp2_with fail
      obtain ⟨k8, k9, kb⟩ := set34 h8 h9 (hne.out) (.slice none 0 0) (.int .i64 0) (.int .i64 0) (.slice none 0 0) (.int .i64 0) (.int .i64 0) (.slice none 0 0)
      replace kb := Lib.hid (kb w hbw.out hg8.out hg9.out)
      clear y0 y1 y2 y3 y4 y5 y6 f0 f1 f2 f3 f4 f5 f6 h8 h9
      generalize ((((((w6.setCell ⟨g8, 0, none⟩ (.slice none 0 0)).setCell ⟨g8, 1, none⟩ (.int .i64 0)).setCell ⟨g8, 2, none⟩ (.int .i64 0)).setCell ⟨g9, 0, none⟩ (.slice none 0 0)).setCell ⟨g9, 1, none⟩ (.int .i64 0)).setCell ⟨g9, 2, none⟩ (.int .i64 0)).setCell ⟨g9, 3, none⟩ (.slice none 0 0) = W9 at *
      have z0 : W9.cell? ⟨g8, 0, none⟩ = some (.slice none 0 0) := k8.cell 0
      have z1 : W9.cell? ⟨g8, 1, none⟩ = some (.int .i64 0) := k8.cell 1
      have z2 : W9.cell? ⟨g8, 2, none⟩ = some (.int .i64 0) := k8.cell 2
      have z3 : W9.cell? ⟨g9, 0, none⟩ = some (.slice none 0 0) := k9.cell 0
      have z4 : W9.cell? ⟨g9, 1, none⟩ = some (.int .i64 0) := k9.cell 1
      have z5 : W9.cell? ⟨g9, 2, none⟩ = some (.int .i64 0) := k9.cell 2
      have z6 : W9.cell? ⟨g9, 3, none⟩ = some (.slice none 0 0) := k9.cell 3
      refine bodyPost_ret (v := .tuple #[.agg #[.slice none 0 0, .int .i64 0, .int .i64 0], .agg #[.slice none 0 0, .int .i64 0, .int .i64 0, .slice none 0 0], .int .i64 5]) (by simp [results, Tryz.results11, go_sem, z0, z1, z2, z3, z4, z5, z6]) rfl ?_
      exact grant_bad hr.out kb.out
end
section
open Go Go.RowKit
set_option linter.unusedVariables false
set_option linter.unusedSimpArgs false
attribute [local go_sem ↓] Go.wp_at_zero Go.wp_at_succ
def EncNoKey (w : World) (e : Ending) (w' : World) : Prop := e = .returned (.tuple #[.slice none 0 0, .int .i64 5]) ∧ Below w.heap.size w w'
set_option maxRecDepth 100000 in
theorem dencode_nokey (f t : Int) (w : World) : Calls Tryz.prog 16 #[.agg #[.slice none 0 0, .int .i64 f, .int .i64 t, .slice none 0 0]] w (EncNoKey w) := by
  go_enter Tryz.func16, Tryz.ntmps16
  go_wp2_with fail
  go_returns
  exact ⟨rfl, by go_grown⟩
set_option maxRecDepth 100000 in
theorem dknown_any (w : World) : Calls Tryz.prog 10 #[] w (BoolPost true w) := by
  have hck := Lib.hid (fun W => dcheck_any 0 (.slice none 0 0) (.slice none 0 0) (.slice none 0 0) [] [] [] 0 0 W (SeesB.nil _ _) (SeesB.nil _ _) (SeesB.nil _ _) (Nat.zero_le _) (by simp))
  have hen := Lib.hid (fun W => dencode_nokey 1 2 W)
  go_enter Tryz.func10, Tryz.ntmps10
  go_wp2_with fail
  refine (hen.out _).mono ?_
  rintro e w1 ⟨rfl, hb1⟩
  dsimp only
  go_wp2_with fail
  refine (hck.out _).mono ?_
  rintro e w2 ⟨rfl, hb2⟩
  rw [show dcheckC [] [] 0 0 [] = 5 from rfl]
  dsimp only
  go_wp2_with fail
  go_ret
  exact ⟨rfl, bgo hb1 hb2⟩
end
section
open Go.RowKit
set_option linter.unusedVariables false
set_option linter.unusedSimpArgs false
attribute [local go_sem ↓] Go.wp_at_zero Go.wp_at_succ
theorem grant_first {sd p : Bs} {f t : Int} (h1 : sd.length = 32) (h2 : p.length = 32) (h3 : vS f t = true) : grantR sd 0 0 p f t = ((sd, 0, 1), (p, f, t, sigG sd 0 0 (tGrant ++ p ++ spanB f t)), 0) := by
  have hv : validI sd 0 0 = true := by unfold validI; simp [h1]
  have hs : ∀ m, signAll sd 0 0 m = (sd, 0, 1, sigG sd 0 0 m, 0) := fun m => by
    unfold signAll
    rw [if_pos hv, if_neg (by decide)]
    rfl
  unfold grantR
  rw [if_pos hv, if_pos h2, if_pos h3, hs]
  rfl
theorem box7_cells {W : World} {g : Nat} {T : TypeId} {a b c d e f h : Value} (x : Box W g T [a, b, c, d, e, f, h]) : W.cell? ⟨g, 0, none⟩ = some a ∧ W.cell? ⟨g, 1, none⟩ = some b ∧ W.cell? ⟨g, 2, none⟩ = some c ∧ W.cell? ⟨g, 3, none⟩ = some d ∧ W.cell? ⟨g, 4, none⟩ = some e ∧ W.cell? ⟨g, 5, none⟩ = some f ∧ W.cell? ⟨g, 6, none⟩ = some h := ⟨x.cell 0, x.cell 1, x.cell 2, x.cell 3, x.cell 4, x.cell 5, x.cell 6⟩
theorem box7_soft {W : World} {g : Nat} {T : TypeId} {a b c d e f h : Value} (x : Box W g T [a, b, c, d, e, f, h]) : W.frozen? ⟨g, 0, none⟩ = false ∧ W.frozen? ⟨g, 1, none⟩ = false ∧ W.frozen? ⟨g, 2, none⟩ = false ∧ W.frozen? ⟨g, 3, none⟩ = false ∧ W.frozen? ⟨g, 4, none⟩ = false ∧ W.frozen? ⟨g, 5, none⟩ = false ∧ W.frozen? ⟨g, 6, none⟩ = false := ⟨x.frozen 0, x.frozen 1, x.frozen 2, x.frozen 3, x.frozen 4, x.frozen 5, x.frozen 6⟩
theorem box_set7 {W : World} {g : Nat} {T : TypeId} {a0 a1 a2 a3 a4 a5 a6 : Value} (h : Box W g T [a0, a1, a2, a3, a4, a5, a6]) (x0 x1 x2 x3 x4 x5 x6 : Value) : Box (((((((W.setCell ⟨g, 0, none⟩ x0).setCell ⟨g, 1, none⟩ x1).setCell ⟨g, 2, none⟩ x2).setCell ⟨g, 3, none⟩ x3).setCell ⟨g, 4, none⟩ x4).setCell ⟨g, 5, none⟩ x5).setCell ⟨g, 6, none⟩ x6) g T [x0, x1, x2, x3, x4, x5, x6] := by
  have y := ((((((h.set 0 x0).set 1 x1).set 2 x2).set 3 x3).set 4 x4).set 5 x5).set 6 x6
  simpa only [List.set_cons_zero, List.set_cons_succ] using y
theorem below_set7 {w W : World} {g : Nat} (h : Below w.heap.size w W) (hg : w.heap.size ≤ g) (x0 x1 x2 x3 x4 x5 x6 : Value) : Below w.heap.size w (((((((W.setCell ⟨g, 0, none⟩ x0).setCell ⟨g, 1, none⟩ x1).setCell ⟨g, 2, none⟩ x2).setCell ⟨g, 3, none⟩ x3).setCell ⟨g, 4, none⟩ x4).setCell ⟨g, 5, none⟩ x5).setCell ⟨g, 6, none⟩ x6) :=
  ((((((h.setCell (p := ⟨g, 0, none⟩) hg _).setCell (p := ⟨g, 1, none⟩) hg _).setCell (p := ⟨g, 2, none⟩) hg _).setCell (p := ⟨g, 3, none⟩) hg _).setCell (p := ⟨g, 4, none⟩) hg _).setCell (p := ⟨g, 5, none⟩) hg _).setCell (p := ⟨g, 6, none⟩) hg _
theorem noZ7 : NoByte [.slice none 0 0, .int .i64 0, .int .i64 0, .slice none 0 0, .int .i64 0, .int .i64 0, .slice none 0 0] := by
  intro x hx n e
  simp only [List.mem_cons, List.not_mem_nil, or_false] at hx
  rcases hx with rfl | rfl | rfl | rfl | rfl | rfl | rfl <;> cases e
theorem sees_set7 {W : World} {g : Nat} {T : TypeId} {a0 a1 a2 a3 a4 a5 a6 u : Value} {l : Bs} (h : Box W g T [a0, a1, a2, a3, a4, a5, a6]) (n : NoByte [a0, a1, a2, a3, a4, a5, a6]) (x0 x1 x2 x3 x4 x5 x6 : Value) (hs : SeesB W W.heap.size u l) : SeesB (((((((W.setCell ⟨g, 0, none⟩ x0).setCell ⟨g, 1, none⟩ x1).setCell ⟨g, 2, none⟩ x2).setCell ⟨g, 3, none⟩ x3).setCell ⟨g, 4, none⟩ x4).setCell ⟨g, 5, none⟩ x5).setCell ⟨g, 6, none⟩ x6) (((((((W.setCell ⟨g, 0, none⟩ x0).setCell ⟨g, 1, none⟩ x1).setCell ⟨g, 2, none⟩ x2).setCell ⟨g, 3, none⟩ x3).setCell ⟨g, 4, none⟩ x4).setCell ⟨g, 5, none⟩ x5).setCell ⟨g, 6, none⟩ x6).heap.size u l := by
  have hz : (((((((W.setCell ⟨g, 0, none⟩ x0).setCell ⟨g, 1, none⟩ x1).setCell ⟨g, 2, none⟩ x2).setCell ⟨g, 3, none⟩ x3).setCell ⟨g, 4, none⟩ x4).setCell ⟨g, 5, none⟩ x5).setCell ⟨g, 6, none⟩ x6).heap.size = W.heap.size := by simp [World.setCell]
  rw [hz]
  exact hs.over (Nat.le_refl _) h n (ggo (ggo (ggo (ggo (ggo (ggo (setCell_grown W g 0 x0) (setCell_grown _ g 1 x1)) (setCell_grown _ g 2 x2)) (setCell_grown _ g 3 x3)) (setCell_grown _ g 4 x4)) (setCell_grown _ g 5 x5)) (setCell_grown _ g 6 x6))
end
section
open Go Go.RowKit
set_option linter.unusedVariables false
def wrapT (a c : Bs) : List (Bs × Bs) := [(nANSW, a), (nCERT, c)]
def wrapB (c a : Bs) : Bs := encT (wrapT a c)
def wrapOk (c : Bs) (ys : List Bs) : Bool := ys.all fun a => decide (encC (wrapT a c) = 0)
theorem wrap_zip (a c : Bs) : namesA.zip [a, c] = wrapT a c := rfl
abbrev GrantV := (Bs × Int × Int) × (Bs × Int × Int × Bs)
def noGrant : GrantV := (([], 0, 0), ([], 0, 0, []))
/-- What Answer returns: the grant, the answers, the error. -/
def dansR (sd : Bs) (h n : Int) (P : Bs) (f t : Int) (S : Bs) (ns : List Bs) (lo hi : Int) : GrantV × List Bs × Int :=
  if dencC P f t S = 0 then
    (if (answerR sd h n ns lo hi).2.2 = 0 then
      (if inS lo hi f t = true then
        (if wrapOk (dencB P f t S) (answerR sd h n ns lo hi).2.1 = true then (((answerR sd h n ns lo hi).1, (P, f, t, S)), (answerR sd h n ns lo hi).2.1.map (wrapB (dencB P f t S)), 0)
        else (noGrant, [], 2))
      else (noGrant, [], 25))
    else (noGrant, [], (answerR sd h n ns lo hi).2.2))
  else (noGrant, [], dencC P f t S)
def DAnsP (r : GrantV × List Bs × Int) (w : World) (e : Ending) (w' : World) : Prop :=
  ∃ v1 v2 v3 v4, e = .returned (.tuple #[.agg #[v1, .int .i64 r.1.1.2.1, .int .i64 r.1.1.2.2, v2, .int .i64 r.1.2.2.1, .int .i64 r.1.2.2.2.1, v3], v4, .int .i64 r.2.2]) ∧ SeesB w' w'.heap.size v1 r.1.1.1 ∧ SeesB w' w'.heap.size v2 r.1.2.1 ∧ SeesB w' w'.heap.size v3 r.1.2.2.2.2 ∧ SeesL w' w'.heap.size v4 r.2.1 ∧ Below w.heap.size w w'
theorem dans_bad {r : GrantV × List Bs × Int} {c : Int} (h : r = (noGrant, [], c)) {w w' : World} (hb : Below w.heap.size w w') : DAnsP r w (.returned (.tuple #[.agg #[.slice none 0 0, .int .i64 0, .int .i64 0, .slice none 0 0, .int .i64 0, .int .i64 0, .slice none 0 0], .slice none 0 0, .int .i64 c])) w' := by
  subst h
  exact ⟨_, _, _, _, rfl, SeesB.nil _ _, SeesB.nil _ _, SeesB.nil _ _, (OwnL.nil w' 0).sees, hb⟩
theorem dans_ok {r : GrantV × List Bs × Int} {rs P S : Bs} {rh rn f t : Int} {ls : List Bs} (h : r = (((rs, rh, rn), (P, f, t, S)), ls, 0)) {w W : World} {v1 v2 v3 v4 : Value} (t1 : SeesB W W.heap.size v1 rs) (t2 : SeesB W W.heap.size v2 P) (t3 : SeesB W W.heap.size v3 S) (t4 : SeesL W W.heap.size v4 ls) (hb : Below w.heap.size w W) :
    DAnsP r w (.returned (.tuple #[.agg #[v1, .int .i64 rh, .int .i64 rn, v2, .int .i64 f, .int .i64 t, v3], v4, .int .i64 0])) W := by
  subst h
  exact ⟨_, _, _, _, rfl, t1, t2, t3, t4, hb⟩
theorem wrapOk_step (c : Bs) (ys : List Bs) (k : Nat) (a : Bs) (h : ys[k]? = some a) : wrapOk c (ys.take (k + 1)) = (wrapOk c (ys.take k) && decide (encC (wrapT a c) = 0)) := by
  rw [take_one ys k a h]
  unfold wrapOk
  rw [List.all_append]
  simp
theorem wrapOk_false {c : Bs} {ys : List Bs} {a : Bs} (h : a ∈ ys) (hc : encC (wrapT a c) ≠ 0) : wrapOk c ys = false := by
  cases hw : wrapOk c ys with
  | false => rfl
  | true =>
    unfold wrapOk at hw
    rw [List.all_eq_true] at hw
    have := hw a h
    simp at this
    exact absurd this hc
/-- The list while the first k are wrapped. -/
def mixL (c : Bs) (ys : List Bs) (k : Nat) : List Bs := (ys.take k).map (wrapB c) ++ ys.drop k
theorem mixL_zero (c : Bs) (ys : List Bs) : mixL c ys 0 = ys := by simp [mixL]
theorem mixL_all (c : Bs) (ys : List Bs) : mixL c ys ys.length = ys.map (wrapB c) := by simp [mixL]
theorem mixL_len (c : Bs) (ys : List Bs) (k : Nat) (hk : k ≤ ys.length) : (mixL c ys k).length = ys.length := by
  simp [mixL]; omega
theorem mixL_get (c : Bs) (ys : List Bs) (k : Nat) (hk : k < ys.length) : (mixL c ys k).getD k [] = ys.getD k [] := by
  rw [List.getD_eq_getElem?_getD, List.getD_eq_getElem?_getD, mixL, List.getElem?_append_right (by simp; omega)]
  simp
  rw [Nat.min_eq_left (by omega), Nat.sub_self, Nat.add_zero]
theorem mixL_step (c : Bs) (ys : List Bs) (k : Nat) (a : Bs) (h : ys[k]? = some a) : (mixL c ys k).set k (wrapB c a) = mixL c ys (k + 1) := by
  have hk : k < ys.length := (List.getElem?_eq_some_iff.1 h).1
  have hd : ys.drop k = a :: ys.drop (k + 1) := by
    rw [List.drop_eq_getElem_cons hk]
    rw [List.getElem?_eq_getElem hk] at h
    cases h
    rfl
  unfold mixL
  have hl : ((ys.take k).map (wrapB c)).length = k := by simp; omega
  rw [take_one ys k a h, List.map_append, hd, List.set_append, if_neg (by omega), hl, Nat.sub_self, List.append_assoc]
  rfl
theorem encT_mod (ts : List (Bs × Bs)) : (encT ts).length % 4 = 0 := by
  by_cases h : encC ts = 0
  · have he : encT ts = bodyT ts := by rw [encT, if_pos h]
    rw [he]
    unfold encC at h
    split at h
    · omega
    split at h
    · rename_i g1 g2
      have h4 := checkT_ok ts [] g2
      have hb := body_len ts h4 (by omega)
      have hd := (dataT_pre ts h4 (by omega) ts.length).2
      rw [List.take_of_length_le (Nat.le_refl _)] at hd
      omega
    · rename_i g2
      exact absurd h g2
  · rw [encT, if_neg h]; rfl
theorem denc_mod (P : Bs) (f t : Int) (S : Bs) : (dencB P f t S).length % 4 = 0 := by
  by_cases h : dencC P f t S = 0
  · rw [← (dtags_enc P f t S h).2]
    exact encT_mod _
  · rw [dencB, if_neg h]; rfl
theorem ansL_props (ns : List Bs) (S part : Bs) (k : Nat) : ∀ a ∈ ansL ns S part k, a.length ≤ 2048 ∧ a.length % 4 = 0 := by
  intro a ha
  simp only [ansL, List.mem_map] at ha
  obtain ⟨i, -, rfl⟩ := ha
  exact ⟨ansB_len _ _ _ _, encT_mod _⟩
theorem answer_props {sd : Bs} {h n : Int} {ns : List Bs} {lo hi : Int} (h0 : (answerR sd h n ns lo hi).2.2 = 0) : 1 ≤ (answerR sd h n ns lo hi).2.1.length ∧ (answerR sd h n ns lo hi).2.1.length ≤ 16 ∧ ∀ a ∈ (answerR sd h n ns lo hi).2.1, a.length ≤ 2048 ∧ a.length % 4 = 0 := by
  by_cases h1 : bchkC sd h n ns lo hi = 0
  · obtain ⟨-, n1, n2, -, -⟩ := bchk_zero h1
    have e : answerR sd h n ns lo hi = if (signAll sd h n (tBatch ++ partG ns lo hi)).2.2.2.2 = 0 then
      (((signAll sd h n (tBatch ++ partG ns lo hi)).1, (signAll sd h n (tBatch ++ partG ns lo hi)).2.1, (signAll sd h n (tBatch ++ partG ns lo hi)).2.2.1), ansL ns (signAll sd h n (tBatch ++ partG ns lo hi)).2.2.2.1 (partG ns lo hi) ns.length, 0)
    else (([], 0, 0), [], (signAll sd h n (tBatch ++ partG ns lo hi)).2.2.2.2) := by rw [answerR, if_pos h1]
    by_cases h2 : (signAll sd h n (tBatch ++ partG ns lo hi)).2.2.2.2 = 0
    · rw [e, if_pos h2]
      exact ⟨by rw [ansL_len]; exact n1, by rw [ansL_len]; exact n2, ansL_props _ _ _ _⟩
    · rw [e, if_neg h2] at h0
      exact absurd h0 h2
  · rw [answerR, if_neg h1] at h0
    exact absurd h0 h1
theorem wrap_code (a c : Bs) (ha : a.length % 4 = 0) (hc : c.length % 4 = 0) : encC (wrapT a c) = 0 ∨ encC (wrapT a c) = 2 := by
  have h1 : namedG nANSW = true := by decide
  have h2 : namedG nCERT = true := by decide
  have h3 : (Op.bytesLess nANSW [] || nANSW == []) = false := by decide
  have h4 : (Op.bytesLess nCERT nANSW || nCERT == nANSW) = false := by decide
  have hk : checkT [] (wrapT a c) = 0 := by
    unfold wrapT
    rw [checkT, if_pos h1, h3, if_neg (by decide), if_pos ha, checkT, if_pos h2, h4, if_neg (by decide), if_pos hc, checkT]
  unfold encC
  rw [if_neg (by simp [wrapT]), if_pos hk]
  split
  · exact .inr rfl
  · exact .inl rfl
end
section
open Go Go.RowKit
set_option linter.unusedVariables false
set_option linter.unusedSimpArgs false
attribute [local go_sem ↓] Go.wp_at_zero Go.wp_at_succ
def KGrP (v1 : Value) (h n : Int) (P : Bs) (f t : Int) (S : Bs) (w : World) (e : Ending) (w' : World) : Prop :=
  ∃ v2 v3, e = .returned (.agg #[v1, .int .i64 h, .int .i64 n, v2, .int .i64 f, .int .i64 t, v3]) ∧ SeesB w' w'.heap.size v2 P ∧ SeesB w' w'.heap.size v3 S ∧ Below w.heap.size w w'
/-- What the region of granted leaves: the delegation's block. -/
def GrR (wB : World) (g5 : Nat) (P : Bs) (f t : Int) (S : Bs) (W : World) : Prop :=
  ∃ A2 c2 A3 c3, Box W g5 27 [.slice A2 P.length c2, .int .i64 f, .int .i64 t, .slice A3 S.length c3] ∧ SeesB W W.heap.size (.slice A2 P.length c2) P ∧ SeesB W W.heap.size (.slice A3 S.length c3) S ∧ Below wB.heap.size wB W
section
variable {wB W : World} {g : Nat} {P S : Bs} {f t : Int} {B2 B3 : Option Addr} {d2 d3 : Nat} {a : Option Addr} {n c : Nat} {a' : Option Addr} {n' c' : Nat}
theorem sees_one {T : TypeId} {j : Nat} {v u : Value} {l : Bs} {xs : List Value} (x : Box W g T xs) (hn : NoByte xs) (hs : SeesB W W.heap.size u l) : SeesB (W.setCell ⟨g, j, none⟩ v) (W.setCell ⟨g, j, none⟩ v).heap.size u l := (hs.poke x hn).more (by simp [World.setCell])
theorem noD4 : NoByte [Value.slice a n c, .int .i64 f, .int .i64 t, .slice a' n' c'] := noBL4 (NoB.s _ _ _) (NoB.i _) (NoB.i _) (NoB.s _ _ _)
theorem grr_c (x : Box W g 27 [.slice B2 P.length d2, .int .i64 f, .int .i64 t, .slice a' n' c']) (m2 : SeesB W W.heap.size (.slice B2 P.length d2) P) (m3 : SeesB W W.heap.size (.slice B3 S.length d3) S) (hb : Below wB.heap.size wB W) (hg : wB.heap.size ≤ g) :
    GrR wB g P f t S (W.setCell ⟨g, 3, none⟩ (.slice B3 S.length d3)) := by
  have y := x.set 3 (.slice B3 S.length d3)
  simp only [List.set_cons_succ, List.set_cons_zero] at y
  exact ⟨B2, d2, B3, d3, y, sees_one x noD4 m2, sees_one x noD4 m3, hb.setCell (p := ⟨g, 3, none⟩) hg _⟩
theorem grr_a (x : Box W g 27 [.slice a n c, .int .i64 f, .int .i64 t, .slice a' n' c']) (m2 : SeesB W W.heap.size (.slice B2 P.length d2) P) (m3 : SeesB W W.heap.size (.slice B3 S.length d3) S) (hb : Below wB.heap.size wB W) (hg : wB.heap.size ≤ g) :
    GrR wB g P f t S ((W.setCell ⟨g, 0, none⟩ (.slice B2 P.length d2)).setCell ⟨g, 3, none⟩ (.slice B3 S.length d3)) := by
  have y := x.set 0 (.slice B2 P.length d2)
  simp only [List.set_cons_succ, List.set_cons_zero] at y
  exact grr_c y (sees_one x noD4 m2) (sees_one x noD4 m3) (hb.setCell (p := ⟨g, 0, none⟩) hg _) hg
theorem grr_b (x : Box W g 27 [.slice a n c, .int .i64 f, .int .i64 t, .slice a' n' c']) (m2 : SeesB W W.heap.size (.slice B2 P.length d2) P) (m3 : SeesB W W.heap.size (.slice B3 S.length d3) S) (hb : Below wB.heap.size wB W) (hg : wB.heap.size ≤ g) :
    GrR wB g P f t S ((W.setCell ⟨g, 3, none⟩ (.slice B3 S.length d3)).setCell ⟨g, 0, none⟩ (.slice B2 P.length d2)) := by
  have y := x.set 3 (.slice B3 S.length d3)
  simp only [List.set_cons_succ, List.set_cons_zero] at y
  have z := y.set 0 (.slice B2 P.length d2)
  simp only [List.set_cons_succ, List.set_cons_zero] at z
  exact ⟨B2, d2, B3, d3, z, sees_one y noD4 (sees_one x noD4 m2), sees_one y noD4 (sees_one x noD4 m3), (hb.setCell (p := ⟨g, 3, none⟩) hg _).setCell (p := ⟨g, 0, none⟩) hg _⟩
end
set_option maxRecDepth 100000 in
set_option maxHeartbeats 4000000 in
theorem kgranted2_any (B : Nat) (A0 : Option Addr) (n00 c00 : Nat) (A1 : Option Addr) (n1 c1 : Nat) (u2 u3 : Value) (h0 n0 h n : Int) (P S : Bs) (f t : Int) (w : World) (hu2 : SeesB w B u2 P) (hu3 : SeesB w B u3 S) (hB : B ≤ w.heap.size) (hP : P.length ≤ 1048576) (hS : S.length ≤ 1048576) :
    Calls Tryz.prog 22 #[.agg #[.slice A0 n00 c00, .int .i64 h0, .int .i64 n0, u2, .int .i64 f, .int .i64 t, u3],   .agg #[.slice A1 n1 c1, .int .i64 h, .int .i64 n]] w (KGrP (.slice A1 n1 c1) h n P f t S w) := by
  obtain ⟨A2, c2, rfl, -, -⟩ := hu2.mk_
  obtain ⟨A3, c3, rfl, -, -⟩ := hu3.mk_
  have b4 := bgo (bgo (bgo (balloc w (.cells #[.slice A0 n00 c00, .int .i64 h0, .int .i64 n0, .slice A2 P.length c2, .int .i64 f, .int .i64 t, .slice A3 S.length c3] 29)) (balloc _ (.cells #[.slice A1 n1 c1, .int .i64 h, .int .i64 n] 25))) (balloc _ (.cells #[.slice none 0 0, .int .i64 0, .int .i64 0, .slice none 0 0, .int .i64 0, .int .i64 0, .slice none 0 0] 29))) (balloc _ (.cells #[.slice A2 P.length c2, .int .i64 f, .int .i64 t, .slice A3 S.length c3] 27))
  have bB := Lib.hid (bgo (bgo (balloc w (.cells #[.slice A0 n00 c00, .int .i64 h0, .int .i64 n0, .slice A2 P.length c2, .int .i64 f, .int .i64 t, .slice A3 S.length c3] 29)) (balloc _ (.cells #[.slice A1 n1 c1, .int .i64 h, .int .i64 n] 25))) (balloc _ (.cells #[.slice none 0 0, .int .i64 0, .int .i64 0, .slice none 0 0, .int .i64 0, .int .i64 0, .slice none 0 0] 29)))
  have x3 := ((Box.new (w.alloc (.cells #[.slice A0 n00 c00, .int .i64 h0, .int .i64 n0, .slice A2 P.length c2, .int .i64 f, .int .i64 t, .slice A3 S.length c3] 29)) 25 [.slice A1 n1 c1, .int .i64 h, .int .i64 n]).below (balloc _ (.cells #[.slice none 0 0, .int .i64 0, .int .i64 0, .slice none 0 0, .int .i64 0, .int .i64 0, .slice none 0 0] 29))).below (balloc _ (.cells #[.slice A2 P.length c2, .int .i64 f, .int .i64 t, .slice A3 S.length c3] 27))
  have x4 := (Box.new ((w.alloc (.cells #[.slice A0 n00 c00, .int .i64 h0, .int .i64 n0, .slice A2 P.length c2, .int .i64 f, .int .i64 t, .slice A3 S.length c3] 29)).alloc (.cells #[.slice A1 n1 c1, .int .i64 h, .int .i64 n] 25)) 29 [.slice none 0 0, .int .i64 0, .int .i64 0, .slice none 0 0, .int .i64 0, .int .i64 0, .slice none 0 0]).below (balloc _ (.cells #[.slice A2 P.length c2, .int .i64 f, .int .i64 t, .slice A3 S.length c3] 27))
  have x5 := Box.new (((w.alloc (.cells #[.slice A0 n00 c00, .int .i64 h0, .int .i64 n0, .slice A2 P.length c2, .int .i64 f, .int .i64 t, .slice A3 S.length c3] 29)).alloc (.cells #[.slice A1 n1 c1, .int .i64 h, .int .i64 n] 25)).alloc (.cells #[.slice none 0 0, .int .i64 0, .int .i64 0, .slice none 0 0, .int .i64 0, .int .i64 0, .slice none 0 0] 29)) 27 [.slice A2 P.length c2, .int .i64 f, .int .i64 t, .slice A3 S.length c3]
  have bD := Lib.hid (balloc (((w.alloc (.cells #[.slice A0 n00 c00, .int .i64 h0, .int .i64 n0, .slice A2 P.length c2, .int .i64 f, .int .i64 t, .slice A3 S.length c3] 29)).alloc (.cells #[.slice A1 n1 c1, .int .i64 h, .int .i64 n] 25)).alloc (.cells #[.slice none 0 0, .int .i64 0, .int .i64 0, .slice none 0 0, .int .i64 0, .int .i64 0, .slice none 0 0] 29)) (.cells #[.slice A2 P.length c2, .int .i64 f, .int .i64 t, .slice A3 S.length c3] 27))
  have hgB : (((w.alloc (.cells #[.slice A0 n00 c00, .int .i64 h0, .int .i64 n0, .slice A2 P.length c2, .int .i64 f, .int .i64 t, .slice A3 S.length c3] 29)).alloc (.cells #[.slice A1 n1 c1, .int .i64 h, .int .i64 n] 25)).alloc (.cells #[.slice none 0 0, .int .i64 0, .int .i64 0, .slice none 0 0, .int .i64 0, .int .i64 0, .slice none 0 0] 29)).heap.size = w.heap.size + 1 + 1 + 1 := by rw [World.size_alloc, World.size_alloc, World.size_alloc]
  rw [World.size_alloc] at x3
  rw [World.size_alloc, World.size_alloc] at x4
  rw [World.size_alloc, World.size_alloc, World.size_alloc] at x5
  have s2 := seesB_of hu2 hB b4
  have s3 := seesB_of hu3 hB b4
  change Box ((((w.alloc (.cells #[.slice A0 n00 c00, .int .i64 h0, .int .i64 n0, .slice A2 P.length c2, .int .i64 f, .int .i64 t, .slice A3 S.length c3] 29)).alloc (.cells #[.slice A1 n1 c1, .int .i64 h, .int .i64 n] 25)).alloc (.cells #[.slice none 0 0, .int .i64 0, .int .i64 0, .slice none 0 0, .int .i64 0, .int .i64 0, .slice none 0 0] 29)).alloc (.cells #[.slice A2 P.length c2, .int .i64 f, .int .i64 t, .slice A3 S.length c3] 27)) _ _ _ at x3 x4 x5
  have hg4 : w.heap.size ≤ w.heap.size + 1 + 1 := by omega
  replace hg4 := Lib.hid hg4
  replace hgB := Lib.hid hgB
  clear hu2 hu3 b4
  go_enter Tryz.func22, Tryz.ntmps22
  go_wp2_with fail
  generalize ((w.alloc (.cells #[.slice A0 n00 c00, .int .i64 h0, .int .i64 n0, .slice A2 P.length c2, .int .i64 f, .int .i64 t, .slice A3 S.length c3] 29)).alloc (.cells #[.slice A1 n1 c1, .int .i64 h, .int .i64 n] 25)).alloc (.cells #[.slice none 0 0, .int .i64 0, .int .i64 0, .slice none 0 0, .int .i64 0, .int .i64 0, .slice none 0 0] 29) = wB at *
  generalize wB.alloc (.cells #[.slice A2 P.length c2, .int .i64 f, .int .i64 t, .slice A3 S.length c3] 27) = W0 at *
  generalize hG5 : w.heap.size + 1 + 1 + 1 = g5 at *
  generalize hG4 : w.heap.size + 1 + 1 = g4 at *
  generalize hG3 : w.heap.size + 1 = g3 at *
  have hn35 : g3 < g5 := by omega
  have hn45 : g4 < g5 := by omega
  replace hG5 := Lib.hid hG5
  replace hG4 := Lib.hid hG4
  replace hG3 := Lib.hid hG3
  have hgBl : Hid (wB.heap.size ≤ g5) := by show _ ≤ _; have := hgB.out; omega
  have hc0 := Lib.hid (bclone_any _ _ P W0.drew (seesB_of s2 (Nat.le_refl _) (bdrew W0)) (Nat.le_refl _) (by omega))
  have hc0' := Lib.hid (bclone_any _ _ P W0 s2 (Nat.le_refl _) (by omega))
  have hc3 := Lib.hid (fun W (hs : SeesB W W.heap.size (.slice A3 S.length c3) S) => bclone_any W.heap.size _ S W hs (Nat.le_refl _) (by omega))
  have x34 := Lib.hid (show (∀ W, Below wB.heap.size wB W → Box W g3 25 [.slice A1 n1 c1, .int .i64 h, .int .i64 n] ∧ Box W g4 29 [.slice none 0 0, .int .i64 0, .int .i64 0, .slice none 0 0, .int .i64 0, .int .i64 0, .slice none 0 0]) from fun W hW => by
    have e3 : Box wB g3 25 [.slice A1 n1 c1, .int .i64 h, .int .i64 n] := (bD.out.block g3 (by have := hgB.out; omega)).symm.trans x3
    have e4 : Box wB g4 29 [.slice none 0 0, .int .i64 0, .int .i64 0, .slice none 0 0, .int .i64 0, .int .i64 0, .slice none 0 0] := (bD.out.block g4 (by have := hgB.out; omega)).symm.trans x4
    exact ⟨e3.below hW, e4.below hW⟩)
  obtain ⟨y0, y1, y2, y3, f0, f1, f2, f3⟩ := box4_cells x5
  replace s3 := Lib.hid s3
  clear x3 x4 s2 hn35 hn45
  go_cut [10] (fun v W => GrR wB g5 P f t S W)
  case first =>
    clear y1 y2 f1 f2
    go_region_with
      (first
        | (go_at_call_of 51 (A2); (with_reducible refine hc0.out.mono ?_); rintro e w1 ⟨v2', rfl, o1, hb1⟩
           obtain ⟨B2, d2, rfl, -, -⟩ := o1.sees.mk_
           have m2 := o1.sees
           replace hb1 := bgo (bdrew W0) hb1
           have x51 := x5.below hb1
           have s31 := seesB_of s3.out (Nat.le_refl _) hb1
           obtain ⟨e0, -, -, e3, j0, -, -, j3⟩ := box4_cells x51)
        | (go_at_call_of 51 (A2); (with_reducible refine hc0'.out.mono ?_); rintro e w1 ⟨v2', rfl, o1, hb1⟩
           obtain ⟨B2, d2, rfl, -, -⟩ := o1.sees.mk_
           have m2 := o1.sees
           have x51 := x5.below hb1
           have s31 := seesB_of s3.out (Nat.le_refl _) hb1
           obtain ⟨e0, -, -, e3, j0, -, -, j3⟩ := box4_cells x51)
        | (go_at_call_of 51 (A3); (with_reducible refine (hc3.out w1 s31).mono ?_); rintro e w2 ⟨v3', rfl, o2, hb2⟩
           obtain ⟨B3, d3, rfl, -, -⟩ := o2.sees.mk_
           have m3 := o2.sees
           replace m2 := seesB_of m2 (Nat.le_refl _) hb2
           have x52 := x51.below hb2
           have hb2' := bgo bD.out (bgo hb1 hb2)
           obtain ⟨i0, -, -, i3, k0, -, -, k3⟩ := box4_cells x52)
        | (go_at_call_of 51 (A3); (with_reducible refine (hc3.out (w1.setCell ⟨g5, 0, none⟩ (.slice B2 P.length d2)) (sees_one x51 noD4 s31)).mono ?_); rintro e w2 ⟨v3', rfl, o2, hb2⟩
           obtain ⟨B3, d3, rfl, -, -⟩ := o2.sees.mk_
           have m3 := o2.sees
           have x52 := (show Box (w1.setCell ⟨g5, 0, none⟩ (.slice B2 P.length d2)) g5 27 [.slice B2 P.length d2, .int .i64 f, .int .i64 t, .slice A3 S.length c3] by have y := x51.set 0 (.slice B2 P.length d2); simpa only [List.set_cons_succ, List.set_cons_zero] using y).below hb2
           replace m2 := seesB_of (sees_one (j := 0) (v := .slice B2 P.length d2) x51 noD4 m2) (Nat.le_refl _) hb2
           have hb2' := bgo ((bgo bD.out hb1).setCell (p := ⟨g5, 0, none⟩) hgBl.out (.slice B2 P.length d2)) hb2
           obtain ⟨i0, -, -, i3, k0, -, -, k3⟩ := box4_cells x52))
    all_goals
      go_wp2_with fail
      go_meet
      first
        | (with_reducible exact grr_a x52 m2 m3 hb2' hgBl.out)
        | (with_reducible exact grr_b x52 m2 m3 hb2' hgBl.out)
        | (with_reducible exact grr_c x52 m2 m3 hb2' hgBl.out)
  case rest =>
    obtain ⟨B2, d2, B3, d3, x5', m2, m3, hb⟩ := hcut
    obtain ⟨w2, rfl⟩ : ∃ w2 : World, w2 = wc := ⟨_, rfl⟩
    obtain ⟨e3, e4⟩ := x34.out w2 hb
    have hbw := Lib.hid (bgo bB.out hb)
    clear x34 y0 y1 y2 y3 f0 f1 f2 f3 x5 hb
    obtain ⟨z0, z1, z2, z3, -, -, -, -⟩ := box4_cells x5'
    obtain ⟨a0, a1, a2, -, -, -⟩ := box3_cells e3
    obtain ⟨q0, q1, q2, q3, q4, q5, q6⟩ := box7_cells e4
    obtain ⟨r0, r1, r2, r3, r4, r5, r6⟩ := box7_soft e4
    go_wp2_with fail
    have k := box_set7 e4 (.slice A1 n1 c1) (.int .i64 h) (.int .i64 n) (.slice B2 P.length d2) (.int .i64 f) (.int .i64 t) (.slice B3 S.length d3)
    have k2 := Lib.hid (sees_set7 e4 noZ7 (.slice A1 n1 c1) (.int .i64 h) (.int .i64 n) (.slice B2 P.length d2) (.int .i64 f) (.int .i64 t) (.slice B3 S.length d3) m2)
    have k3 := Lib.hid (sees_set7 e4 noZ7 (.slice A1 n1 c1) (.int .i64 h) (.int .i64 n) (.slice B2 P.length d2) (.int .i64 f) (.int .i64 t) (.slice B3 S.length d3) m3)
    have kb := Lib.hid (below_set7 hbw.out hg4.out (.slice A1 n1 c1) (.int .i64 h) (.int .i64 n) (.slice B2 P.length d2) (.int .i64 f) (.int .i64 t) (.slice B3 S.length d3))
    clear z0 z1 z2 z3 a0 a1 a2 q0 q1 q2 q3 q4 q5 q6 r0 r1 r2 r3 r4 r5 r6 e3 e4 x5' m2 m3
    generalize ((((((w2.setCell ⟨g4, 0, none⟩ (.slice A1 n1 c1)).setCell ⟨g4, 1, none⟩ (.int .i64 h)).setCell ⟨g4, 2, none⟩ (.int .i64 n)).setCell ⟨g4, 3, none⟩ (.slice B2 P.length d2)).setCell ⟨g4, 4, none⟩ (.int .i64 f)).setCell ⟨g4, 5, none⟩ (.int .i64 t)).setCell ⟨g4, 6, none⟩ (.slice B3 S.length d3) = W9 at *
    obtain ⟨z0, z1, z2, z3, z4, z5, z6⟩ := box7_cells k
    refine bodyPost_ret (v := .agg #[.slice A1 n1 c1, .int .i64 h, .int .i64 n, .slice B2 P.length d2, .int .i64 f, .int .i64 t, .slice B3 S.length d3]) (by simp [results, Tryz.results22, go_sem, z0, z1, z2, z3, z4, z5, z6]) rfl ?_
    exact ⟨_, _, rfl, k2.out, k3.out, kb.out⟩
end
end Go.Proofs.YtamdgjgommejjaaGreat
