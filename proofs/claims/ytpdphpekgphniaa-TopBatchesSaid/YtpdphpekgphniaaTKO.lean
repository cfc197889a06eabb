/- A piece of my texts, cut out by slice.py: what a claim leans on. -/
import Derived.Test.YtpdphpekgphniaaTKA
import Derived.Below
import Derived.ChangeSame
import Derived.Test.YtpdphpekgphniaaRows
import Derived.Laws.BitsAllLaws
import Derived.Laws.Bits64b
import Derived.RowKit
import Derived.WalkKit
import Derived.Laws.OwnMore
import Derived.Laws.Slices
import Derived.Laws.CopyOwn
import Derived.Deep.Draws
import Derived.Lib.Hide
import Derived.Maps.AppendAt
import Derived.Deep.QuietTactic
import Derived.Shelf.Bytes.SlSmallAll
import Derived.ProofKit
import Derived.OpenShut
import Derived.Lib.SmallJoins
import Derived.WalkLawsBesides
import Derived.Handy
import Derived.Outline
import Derived.BigQuiet
import Derived.Deep.OwnRows
import Derived.Deep.RegionHeld3
import Derived.Deep.DrawnRows
import Derived.Laws.MathBits
import Derived.Lib.AppendZeros
import Derived.OwnWalk
import Derived.Lib.BufferMore
import Derived.Lib.Strings
import Derived.Lib.Slices
import Derived.Lib.Small
import Derived.Lib.Walk
import Derived.Lib.BitFns
import Derived.Lib.Overlaps
import Derived.Deep.DeepCutAuto
import Derived.RangeFuncBox
import Derived.RangeFuncLeaves
import Derived.Shelf.Abstract
import Derived.OwnWalkIn
import Derived.TacticsInMore
import Derived.LoopNIn
import Derived.LoopIn
import Derived.Sort.QuietIn
namespace Go.Proofs.Ytpdphpekgphniaa
section
open Go.RowKit Go.WideShapes Go.ChangeShapes
section
variable {H : Type} {enc : TypeId × Value → H} {P : Program}
theorem post_of_below {f : Func} {s : ChangeSpec} {apart fresh handsOn again : Bool} {W W' : World} {args : Array Value} {v : Value} {ds gs : List (DataW H)} {before pa pv : List MemPlace}
    (hW : DataW.Whole enc P f.params.toList s.vars apart W args.toList ds gs before)
    (hres : ∀ (b : Nat) (sp : Nat → Bool) (hd : Bool), DataW.TrodAll enc P W' b sp hd f.resultTypes.toList (v.resultList f.resultTypes.size) (s.fn H (ds ++ gs)).results [])
    (hargs : ∀ sp : Nat → Bool, (∀ p ∈ before, sp p.block = true) → DataW.TrodAll enc P W' 0 sp true f.params.toList args.toList (s.fn H (ds ++ gs)).args pa)
    (hvars : ∀ sp : Nat → Bool, (∀ p ∈ before, sp p.block = true) → DataW.TrodVars enc P W' sp s.vars (s.fn H (ds ++ gs)).vars pv)
    (hps : before = pa ++ pv) (hb : Below W.heap.size W W')
    (hok : ∀ (j : Nat) (t : TypeId) (r : Value), f.resultTypes[j]? = some t → (v.resultList f.resultTypes.size)[j]? = some r → Value.okWide P W' .any 0 t r) :
    s.post enc P f apart fresh handsOn again W args v W' := by
  have hlt : ∀ p ∈ before, p.block < W.heap.size := fun p hp => hW.lt p hp
  have hold : ∀ p ∈ before, (fun b => decide (b < W.heap.size)) p.block = true := fun p hp => by simpa using hlt p hp
  refine ⟨ds, gs, before, [], pa, pv, hW, hres _ _ _, hargs _ hold, hvars _ hold, World.keptBut_mono (fun p hp => ⟨hp, ?_⟩) (hb.frame (· ∈ before)), fun _ => ?_⟩
  · rw [hps, List.mem_append] at hp
    exact Or.inr hp
  · obtain ⟨_, _, _, _, _, hz, hn⟩ := hW
    refine ⟨hok, _, _, ([] ++ pa) ++ pv, ⟨[] ++ pa, pv, trodAll_append (hargs _ (fun _ _ => rfl)) (hres _ _ _), hvars _ (fun _ _ => rfl), rfl, ?_, ?_⟩, ?_⟩
    · intro b off hp
      have hin : MemPlace.cell b off ∈ before := by rw [hps]; simpa using hp
      rw [hb.frozen (hlt _ hin)]
      exact hz b off hin
    · intro ha
      have := hn ha
      rw [hps] at this
      simpa using this
    · intro p hp _
      rw [hps]
      simpa using hp
end
end
section
open Go.RowKit
theorem mapM_keep {α β : Type} {f g : α → Option β} : ∀ {l : List α} {ys : List β}, l.mapM f = some ys → (∀ x y, x ∈ l → y ∈ ys → f x = some y → g x = some y) → l.mapM g = some ys
  | [], ys, h, _ => by simpa using h
  | x :: l, ys, h, hk => by
    rw [List.mapM_cons] at h ⊢
    cases h1 : f x with
    | none => rw [h1] at h; simp at h
    | some y =>
      cases h2 : l.mapM f with
      | none => rw [h1, h2] at h; simp at h
      | some zs =>
        rw [h1, h2] at h
        have h : y :: zs = ys := by simpa using h
        subst h
        rw [hk x y (by simp) (by simp) h1, mapM_keep h2 (fun x' y' hx hy he => hk x' y' (by simp [hx]) (by simp [hy]) he)]
        rfl
theorem cell_keep {W W' : World} (hb : Below W.heap.size W W') {a : Addr} {v : Value} (h : W.cell? a = some v) : W'.cell? a = some v := by
  have hlt : a.block < W.heap.size := by
    rcases Nat.lt_or_ge a.block W.heap.size with h1 | h1
    · exact h1
    · exfalso
      have h0 : W.heap[a.block]? = none := Array.getElem?_eq_none h1
      unfold World.cell? at h
      rw [h0] at h
      simp at h
  rw [hb.cell hlt]; exact h
theorem cells_keep {W W' : World} (hb : Below W.heap.size W W') {base n : Nat} {a : Addr} {vs : List Value} (h : W.cells? base a n = some vs) : W'.cells? base a n = some vs := by
  unfold World.cells? at h ⊢
  split at h
  · rw [if_pos (by assumption)]
    exact mapM_keep h (fun x y _ _ he => cell_keep hb he)
  · cases h
theorem mem_flat {α β : Type} {xs : List (α × List β)} {y : α × List β} {p : β} (hy : y ∈ xs) (hp : p ∈ y.2) : p ∈ xs.flatMap (·.2) := List.mem_flatMap.2 ⟨y, hy, hp⟩
theorem mapM_len {α β : Type} {f : α → Option β} : ∀ {l : List α} {ys : List β}, l.mapM f = some ys → ys.length = l.length
  | [], ys, h => by
    have : [] = ys := by simpa using h
    subst this; rfl
  | x :: l, ys, h => by
    rw [List.mapM_cons] at h
    cases h1 : f x with
    | none => rw [h1] at h; simp at h
    | some y =>
      cases h2 : l.mapM f with
      | none => rw [h1, h2] at h; simp at h
      | some zs =>
        rw [h1, h2] at h
        have h : y :: zs = ys := by simpa using h
        subst h
        simp [mapM_len h2]
section
variable {H : Type} {enc : TypeId × Value → H} {P : Program}
/-- Types of numbers, bools, strings, and of slices, structs, arrays of such. -/
def fine (P : Program) : Nat → TypeId → Bool
  | 0, _ => false
  | n + 1, t =>
    match P.underlying t with
    | some .bool => true
    | some (.int _) => true
    | some .string => true
    | some (.slice e) => decide (0 < P.cellsOf e) && fine P n e
    | some (.struct fs) => fs.toList.all fun f => fine P n f.type
    | some (.array _ e) => fine P n e
    | _ => false
theorem trod_keep {W W' : World} (hb : Below W.heap.size W W') (sp : Nat → Bool) :
    ∀ (n fuel : Nat) (t : TypeId) (cs : List Value) (x : DataW H × List MemPlace), fine P n t = true → DataW.trod enc P W 0 (fun _ => true) true fuel t cs = some x → (∀ p ∈ x.2, sp p.block = true) → DataW.trod enc P W' 0 sp true fuel t cs = some x
  | 0, _, _, _, _, hf, _, _ => by simp [fine] at hf
  | n + 1, 0, _, _, _, _, h, _ => by simp [DataW.trod] at h
  | n + 1, fuel + 1, t, cs, x, hf, h, hp => by
    have ih := trod_keep hb sp n fuel
    unfold DataW.trod at h ⊢
    unfold fine at hf
    split at h
    all_goals try exact h
    all_goals (rename_i hut; try (rw [hut] at hf; cases hf; done))
    · -- slice
      rename_i e a len cap
      rw [hut] at hf
      simp only [Bool.and_eq_true, decide_eq_true_eq] at hf
      simp only [] at h ⊢
      split at h
      · rename_i hif
        rw [if_pos hif]
        obtain ⟨ys, hys, h⟩ := Option.bind_eq_some_iff.1 h
        obtain ⟨rest, hrest, rfl⟩ := Option.map_eq_some_iff.1 h
        simp only [if_true] at hrest
        have hel : ∀ (i : Nat) (y : DataW H × List MemPlace), y ∈ ys ++ rest → ((W.cells? 0 (a.add (i * P.cellsOf e)) (P.cellsOf e)).bind (DataW.trod enc P W 0 (fun _ => true) true fuel e)) = some y →
            ((W'.cells? 0 (a.add (i * P.cellsOf e)) (P.cellsOf e)).bind (DataW.trod enc P W' 0 sp true fuel e)) = some y := by
          intro i y hy he
          obtain ⟨vs, hv, he⟩ := Option.bind_eq_some_iff.1 he
          rw [cells_keep hb hv, Option.bind_some]
          exact ih _ _ _ hf.2 he (fun p hp' => hp p (List.mem_append_right _ (mem_flat hy hp')))
        rw [mapM_keep hys (fun i y _ hy he => hel i y (List.mem_append_left _ hy) he), Option.bind_some]
        have l2 := mapM_len hrest
        rw [List.length_range] at l2
        by_cases h0 : cap - len = 0
        · rw [h0] at hrest ⊢
          have hr0 : rest = [] := by simpa using hrest.symm
          subst hr0
          simp
        · have hsp : sp a.block = true := by
            refine hp (.cell a.block (a.off + 0)) (List.mem_append_left _ (List.mem_map.2 ⟨0, List.mem_range.2 ?_, rfl⟩))
            exact Nat.mul_pos (by omega) hf.1
          rw [if_pos hsp, mapM_keep hrest (fun i y _ hy he => hel _ y (List.mem_append_right _ hy) he), Option.map_some]
      · cases h
    · -- struct
      rw [hut] at hf
      simp only [List.all_eq_true] at hf
      split at h
      · rename_i hif
        rw [if_pos hif]
        obtain ⟨xs, hxs, rfl⟩ := Option.map_eq_some_iff.1 h
        rw [mapM_keep hxs (fun f y hfm hy he => ih _ _ _ (hf f hfm) he (fun p hp' => hp p (mem_flat hy hp'))), Option.map_some]
      · cases h
    · -- array
      rw [hut] at hf
      split at h
      · rename_i hif
        rw [if_pos hif]
        obtain ⟨xs, hxs, rfl⟩ := Option.map_eq_some_iff.1 h
        rw [mapM_keep hxs (fun f y _ hy he => ih _ _ _ hf he (fun p hp' => hp p (mem_flat hy hp'))), Option.map_some]
      · cases h
theorem trodAll_keep (n : Nat) {W W' : World} (hb : Below W.heap.size W W') (sp : Nat → Bool) :
    ∀ {ts : List TypeId} {vs : List Value} {ds : List (DataW H)} {ps : List MemPlace}, (ts.all (fine P n) = true) → DataW.TrodAll enc P W 0 (fun _ => true) true ts vs ds ps → (∀ p ∈ ps, sp p.block = true) → DataW.TrodAll enc P W' 0 sp true ts vs ds ps
  | [], [], [], ps, _, h, _ => h
  | t :: ts, v :: vs, d :: ds, ps, hf, ⟨p, q, ⟨fuel, h1⟩, h2, hpq⟩, hp => by
    subst hpq
    simp only [List.all_cons, Bool.and_eq_true] at hf
    exact ⟨p, q, ⟨fuel, trod_keep hb sp n fuel t _ _ hf.1 h1 (fun x hx => hp x (List.mem_append_left _ hx))⟩, trodAll_keep n hb sp hf.2 h2 (fun x hx => hp x (List.mem_append_right _ hx)), rfl⟩
  | [], [], _ :: _, _, _, h, _ => h.elim
  | [], _ :: _, _, _, _, h, _ => h.elim
  | _ :: _, [], _, _, _, h, _ => h.elim
  | _ :: _, _ :: _, [], _, _, h, _ => h.elim
/-- What a call owes that writes to no old block, in a program without variables: its arguments read as they did. -/
theorem post_of_kept {f : Func} {s : ChangeSpec} {apart fresh handsOn again : Bool} {W W' : World} {args : Array Value} {v : Value} {ds gs : List (DataW H)} {before p : List MemPlace}
    (hfine : f.params.toList.all (fine P 8) = true)
    (hW : DataW.Whole enc P f.params.toList s.vars apart W args.toList ds gs before)
    (hA : DataW.TrodAll enc P W 0 (fun _ => true) true f.params.toList args.toList ds p) (hbef : before = p)
    (hvars0 : s.vars = []) (hfa : (s.fn H (ds ++ gs)).args = ds) (hfv : (s.fn H (ds ++ gs)).vars = [])
    (hres : ∀ (b : Nat) (sp : Nat → Bool) (hd : Bool), DataW.TrodAll enc P W' b sp hd f.resultTypes.toList (v.resultList f.resultTypes.size) (s.fn H (ds ++ gs)).results [])
    (hb : Below W.heap.size W W')
    (hok : ∀ (j : Nat) (t : TypeId) (r : Value), f.resultTypes[j]? = some t → (v.resultList f.resultTypes.size)[j]? = some r → Value.okWide P W' .any 0 t r) :
    s.post enc P f apart fresh handsOn again W args v W' := by
  subst hbef
  refine post_of_below (pa := before) (pv := []) hW hres (fun sp hsp => ?_) (fun sp _ => ?_) (by simp) hb hok
  · rw [hfa]; exact trodAll_keep 8 hb sp hfine hA hsp
  · rw [hvars0, hfv]; rfl
end
end
section
open Go.RowKit
section
variable {w w' : World} {B B' size n : Nat} {v : Value} {xs : List Value}
end
end
section
open Go.ChangeShapes Go.WideShapes Go.ChangeAt Go.RowKit
section
variable {H : Type} {enc : TypeId × Value → H} {w : World} {base : Nat} {r : Reach} {v : Value} {d : DataW H} {ps : List MemPlace}
theorem cells_uint8 : Try.prog.cellsOf 5 = 1 := by kernel_rfl
theorem byte_ofK (n : Int) (h0 : 0 ≤ n) (h1 : n < 256) : Value.int .u8 n = byV (UInt8.ofNat n.toNat) := by
  unfold byV
  rw [UInt8.toNat_ofNat', Nat.mod_eq_of_lt (by omega)]
  congr 1
  omega
set_option maxRecDepth 100000 in
theorem open_bytes (hval : Value.okWide Try.prog w r base 22 v) (h : DataW.Trod enc Try.prog w 0 (fun _ => true) true 22 v d ps) : ∃ l : Bs, SeesB w w.heap.size v l := by
  obtain ⟨a0, len, cap, rfl⟩ := okWide_slice Try.underlying22 hval
  obtain ⟨fuel, hf⟩ := h
  rcases open_ints Try.underlying22 Try.underlying5 cells_uint8 hf with ⟨hcs, hx⟩ | ⟨a, len', cap', zs, hcs, _, hl, hm, hz, hx, hcell, hwz⟩
  · simp [Value.cells] at hcs
    obtain ⟨rfl, rfl, rfl⟩ := hcs
    exact ⟨[], SeesB.nil _ _⟩
  · simp [Value.cells] at hcs
    obtain ⟨rfl, rfl, rfl⟩ := hcs
    simp only [if_true] at hz
    have hlen : ((zs.take len).map fun n => UInt8.ofNat n.toNat).length = len := by simp; omega
    refine ⟨(zs.take len).map fun n => UInt8.ofNat n.toNat, ?_⟩
    unfold SeesB
    rw [hlen]
    refine ⟨by rw [vb_len, hlen, Nat.mul_one], some a, cap, rfl, hl, hm, fun h0 => ?_⟩
    obtain ⟨b, off, spot⟩ := a
    have hc := hcell 0 (by omega)
    have hspot : spot = none := by simpa [Addr.add] using World.cell?_spot hc
    subst hspot
    refine ⟨b, off, rfl, ?_, fun j u hj => ?_⟩
    · rcases Nat.lt_or_ge b w.heap.size with h1 | h1
      · exact h1
      · exfalso
        have h0 : w.heap[b]? = none := Array.getElem?_eq_none h1
        unfold World.cell? at hc
        rw [add_zero'] at hc
        simp only [h0] at hc
        simp at hc
    · rw [vb_get] at hj
      obtain ⟨x, hx, rfl⟩ := Option.map_eq_some_iff.1 hj
      rw [List.getElem?_map] at hx
      obtain ⟨n, hn, rfl⟩ := Option.map_eq_some_iff.1 hx
      have hj2 : j < len := by
        have := (List.getElem?_eq_some_iff.1 hn).1
        rw [List.length_take] at this; omega
      rw [List.getElem?_take, if_pos hj2] at hn
      have hc := hcell j (by omega)
      have hw := hwz n (List.mem_of_getElem? hn)
      rw [add_zero', List.getD_eq_getElem?_getD, hn, Option.getD_some] at hc
      have hb := bounds_u8 hw
      rw [hc, byte_ofK n hb.1 (by omega)]
end
end
end Go.Proofs.Ytpdphpekgphniaa
