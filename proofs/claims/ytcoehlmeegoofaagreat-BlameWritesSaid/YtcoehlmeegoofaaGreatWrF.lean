/- Contract of octets.Write: fields as bytes. Conditions: types and lengths below 65536, at most 65535 bytes in all. -/
import Derived.Test.YtcoehlmeegoofaaGreatRFlds
namespace Go.Proofs.YtcoehlmeegoofaaGreat
open Go Go.RowKit
set_option linter.unusedVariables false
set_option linter.unusedSimpArgs false
attribute [local go_sem ↓] Go.wp_at_zero Go.wp_at_succ
theorem fdS_get (ls : List Fd) : ∀ (k : Nat) (t : Fd), ls[k]? = some t → (fdS ls)[k * 2]? = some (.val (.int .i64 (t.1 : Int))) ∧ (fdS ls)[k * 2 + 1]? = some (.byt t.2) := by
  induction ls with
  | nil => intro k t h; simp at h
  | cons a r ih =>
    intro k t h
    cases k with
    | zero => simp at h; subst h; exact ⟨rfl, rfl⟩
    | succ k =>
      rw [List.getElem?_cons_succ] at h
      obtain ⟨h1, h2⟩ := ih k t h
      rw [show (k + 1) * 2 = k * 2 + 2 by omega, show k * 2 + 2 + 1 = k * 2 + 1 + 2 by omega]
      exact ⟨h1, h2⟩
theorem fd_at {w : World} {B n c : Nat} {A : Option Addr} {ls : List Fd} (h : SeesR w B (.slice A n c) 2 n (fdS ls)) (k : Nat) (t : Fd) (hk : ls[k]? = some t) :
    ∃ b o A1 c1, A = some ⟨b, o, none⟩ ∧ b < B ∧ w.cell? ⟨b, o + k * 2, none⟩ = some (.int .i64 (t.1 : Int)) ∧ w.cell? ⟨b, o + k * 2 + 1, none⟩ = some (.slice A1 t.2.length c1) ∧ SeesB w B (.slice A1 t.2.length c1) t.2 := by
  have hl := h.1
  rw [fdS_len] at hl
  have hkl := (List.getElem?_eq_some_iff.1 hk).1
  obtain ⟨b, o, e, hb, hc⟩ := h.at_ (by omega)
  obtain ⟨g1, g2⟩ := fdS_get ls k t hk
  obtain ⟨u1, d1, f1⟩ := hc _ _ g1
  obtain ⟨u2, d2, f2⟩ := hc _ _ g2
  have f2 : SeesB w B u2 t.2 := f2
  obtain ⟨rfl, -⟩ := f1
  obtain ⟨A1, c1, rfl, -, -⟩ := f2.mk_
  exact ⟨b, o, A1, c1, e, hb, d1, by rw [Nat.add_assoc]; exact d2, f2⟩
theorem wrF_take {l : List Fd} {k : Nat} {t : Fd} (h : l[k]? = some t) : wrF (l.take (k + 1)) = wrF (l.take k) ++ fdB t := by
  rw [List.take_add_one, wrF_append, h]
  show _ ++ wrF [t] = _
  rw [wrF_one]
theorem wrF_le (l : List Fd) (k : Nat) : (wrF (l.take k)).length ≤ (wrF l).length := by
  conv => rhs; rw [← List.take_append_drop k l, wrF_append, List.length_append]
  omega
theorem wrF_count (l : List Fd) : 4 * l.length ≤ (wrF l).length := by
  induction l with
  | nil => exact Nat.le_refl _
  | cons x l ih => rw [wrF_cons, List.length_append, fdB_len, List.length_cons]; omega
def WriteP (b : Bs) (w : World) (e : Ending) (w' : World) : Prop := ∃ v, e = .returned (.tuple #[v, .int .i64 0]) ∧ OwnB w' w.heap.size v b ∧ Below w.heap.size w w'
end Go.Proofs.YtcoehlmeegoofaaGreat
