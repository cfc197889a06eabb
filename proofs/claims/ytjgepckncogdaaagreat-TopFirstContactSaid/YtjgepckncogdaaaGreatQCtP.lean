/- What a law leans on beyond the base: contracts, plain functions, walks. Conditions: those of each theorem. -/
import Derived.Test.YtjgepckncogdaaaGreatQUP
import Derived.Test.YtjgepckncogdaaaGreatQRowPut
set_option linter.unusedVariables false
set_option linter.unusedSimpArgs false
namespace Go.Proofs.YtjgepckncogdaaaGreat
open Go Go.RowKit
set_option linter.unusedVariables false
def chB (x : UInt8) : Bool := (decide (97 ≤ x.toNat) && decide (x.toNat ≤ 122)) || ((decide (48 ≤ x.toNat) && decide (x.toNat ≤ 57)) || (decide (x.toNat = 46) || decide (x.toNat = 45)))
def runeC (c : Nat) : Bool := !((decide (97 ≤ c) && decide (c ≤ 122)) || ((decide (48 ≤ c) && decide (c ≤ 57)) || (decide (c = 46) || decide (c = 45))))
theorem runeC_ch (x : UInt8) : runeC x.toNat = !(chB x) := rfl
theorem runeC_high (c : Nat) (h : 128 ≤ c) : runeC c = true := by
 unfold runeC
 simp <;> omega
theorem chB_high (x : UInt8) (h : 128 ≤ x.toNat) : chB x = false := by
 unfold chB
 simp <;> omega
theorem idx_ch (l : Bs) (n : Nat) : ∀ pos, l.length - pos ≤ n → pos ≤ l.length → decide (0 ≤ Lib.idxFuncFrom runeC true (strB l) n pos) = !((l.drop pos).all chB) := by
 induction n with
 | zero =>
   intro pos h1 h2
   have : pos = l.length := by omega
   subst this
   simp [Lib.idxFuncFrom]
 | succ n ih =>
   intro pos h1 h2
   rw [Lib.idxFuncFrom]
   by_cases hp : pos < l.length
   · rw [if_pos (by rw [strB_size]; exact hp), List.drop_eq_getElem_cons hp, List.all_cons]
     by_cases hb : l[pos].toNat < 128
     · rw [decode_ascii (strB l) pos hp hb]
       have hr := runeC_ch l[pos]
       have h9 : (strB l)[pos]'hp = l[pos] := rfl
       rw [h9]
       dsimp only
       rw [hr]
       cases hu : chB l[pos] with
       | true =>
         rw [if_neg (by simp)]
         have := ih (pos + 1) (by omega) (by omega)
         rw [this]; simp
       | false => simp
     · have hd := decode_high (strB l) pos hp (by show 128 ≤ l[pos].toNat; omega)
       rw [runeC_high _ hd.1, chB_high _ (by omega), if_pos rfl]
       simp
   · have : pos = l.length := by omega
     subst this
     rw [if_neg (by rw [strB_size]; omega)]
     simp
theorem idx_name (l : Bs) : (!decide (0 ≤ Lib.idxFunc runeC true (strB l))) = l.all chB := by
 unfold Lib.idxFunc
 rw [idx_ch l _ 0 (by rw [strB_size]; omega) (by omega)]
 simp
def nameB (s : Bs) : Bool := decide (1 ≤ s.length ∧ s.length ≤ 24) && s.all chB
abbrev CertG := Bs × Bs × Int × Int × Bs
def formB (n : Bs) (pl : Nat) (f t : Int) : Bool := nameB n && (decide (pl = 32) && vS f t)
def tCert : Bs := [115, 101, 99, 116, 105, 109, 101, 32, 99, 101, 114, 116]
def ctextB (n p : Bs) (f t : Int) : Bs := tCert ++ putB 2 n.length ++ n ++ p ++ spanB f t
theorem ctext_len (n p : Bs) (f t : Int) (hn : n.length ≤ 24) (hp : p.length = 32) : (ctextB n p f t).length ≤ 200 := by
 unfold ctextB
 simp only [List.length_append, putB_len, spanB]
 simp [tCert]
 omega
def cchkC (r : Bs) (c : CertG) : Int := if formB c.1 c.2.1.length c.2.2.1 c.2.2.2.1 = true then (if verifyG r (ctextB c.1 c.2.1 c.2.2.1 c.2.2.2.1) c.2.2.2.2 = true then 0 else 26) else 3
def noCert : CertG := ([], [], 0, 0, [])
def certT (cs : List CertG) (k : Nat) : CertG := cs.getD k noCert
def parG (r : Bs) (cs : List CertG) : Nat → Bs
 | 0 => r
 | k + 1 => (certT cs k).2.1
def chkK (r : Bs) (cs : List CertG) : Nat → Int
 | 0 => 0
 | k + 1 => if chkK r cs k = 0 then cchkC (parG r cs k) (certT cs k) else chkK r cs k
def metK (cs : List CertG) : Nat → Bool × (Int × Int)
 | 0 => (true, (-1152921504606846976, 1152921504606846976))
 | k + 1 => if (metK cs k).1 = true then (meB (metK cs k).2.1 (metK cs k).2.2 (certT cs k).2.2.1 (certT cs k).2.2.2.1, meV (metK cs k).2.1 (metK cs k).2.2 (certT cs k).2.2.1 (certT cs k).2.2.2.1) else metK cs k
def winC (r : Bs) (cs : List CertG) : Int :=
 if 1 ≤ cs.length ∧ cs.length ≤ 4 then (if chkK r cs cs.length = 0 then (if (metK cs cs.length).1 = true then 0 else 25) else chkK r cs cs.length) else 8
def winV (r : Bs) (cs : List CertG) : Int × Int := if winC r cs = 0 then (metK cs cs.length).2 else (0, 0)
def accC (r : Bs) (cs : List CertG) (lo hi : Int) : Int :=
 if winC r cs = 0 then (if vS lo hi = true then (if inS lo hi (winV r cs).1 (winV r cs).2 = true then 0 else 25) else 3) else winC r cs
def accV (r : Bs) (cs : List CertG) (lo hi : Int) : Bs := if accC r cs lo hi = 0 then (certT cs (cs.length - 1)).2.1 else []
def certS (cs : List CertG) : List Spec := cs.flatMap fun c => [.val (.string (strB c.1)), .byt c.2.1, .val (.int .i64 c.2.2.1), .val (.int .i64 c.2.2.2.1), .byt c.2.2.2.2]
theorem certS_len (cs : List CertG) : (certS cs).length = cs.length * 5 := by
 induction cs with
 | nil => rfl
 | cons a r ih => simp only [certS, List.flatMap_cons, List.length_append, List.length_cons, List.length_nil] at *; omega
theorem certS_append (a b : List CertG) : certS (a ++ b) = certS a ++ certS b := by simp [certS]
theorem certS_get (cs : List CertG) : ∀ (k : Nat) (c : CertG), cs[k]? = some c → (certS cs)[k * 5]? = some (.val (.string (strB c.1))) ∧ (certS cs)[k * 5 + 1]? = some (.byt c.2.1) ∧ (certS cs)[k * 5 + 2]? = some (.val (.int .i64 c.2.2.1)) ∧ (certS cs)[k * 5 + 3]? = some (.val (.int .i64 c.2.2.2.1)) ∧ (certS cs)[k * 5 + 4]? = some (.byt c.2.2.2.2) := by
 induction cs with
 | nil => intro k c h; simp at h
 | cons a r ih =>
   intro k c h
   cases k with
   | zero =>
     simp at h
     subst h
     exact ⟨rfl, rfl, rfl, rfl, rfl⟩
   | succ k =>
     rw [List.getElem?_cons_succ] at h
     have := ih k c h
     rw [show (k + 1) * 5 = k * 5 + 5 by omega, show k * 5 + 5 + 1 = k * 5 + 1 + 5 by omega, show k * 5 + 5 + 2 = k * 5 + 2 + 5 by omega, show k * 5 + 5 + 3 = k * 5 + 3 + 5 by omega, show k * 5 + 5 + 4 = k * 5 + 4 + 5 by omega]
     exact this
theorem certT_get (cs : List CertG) (k : Nat) (h : k < cs.length) : cs[k]? = some (certT cs k) := by rw [certT, List.getD_eq_getElem?_getD, List.getElem?_eq_getElem h]; rfl
theorem certT_mem (cs : List CertG) (k : Nat) (h : k < cs.length) : certT cs k ∈ cs := List.mem_of_getElem? (certT_get cs k h)
theorem cert_at {w : World} {B n c : Nat} {A : Option Addr} {cs : List CertG} (h : SeesR w B (.slice A n c) 5 n (certS cs)) (k : Nat) (hk : k < cs.length) :
 ∃ b o A1 c1 A2 c2, A = some ⟨b, o, none⟩ ∧ b < B ∧ w.cell? ⟨b, o + k * 5, none⟩ = some (.string (strB (certT cs k).1)) ∧ w.cell? ⟨b, o + k * 5 + 1, none⟩ = some (.slice A1 (certT cs k).2.1.length c1) ∧ SeesB w B (.slice A1 (certT cs k).2.1.length c1) (certT cs k).2.1 ∧
  w.cell? ⟨b, o + k * 5 + 2, none⟩ = some (.int .i64 (certT cs k).2.2.1) ∧ w.cell? ⟨b, o + k * 5 + 3, none⟩ = some (.int .i64 (certT cs k).2.2.2.1) ∧ w.cell? ⟨b, o + k * 5 + 4, none⟩ = some (.slice A2 (certT cs k).2.2.2.2.length c2) ∧ SeesB w B (.slice A2 (certT cs k).2.2.2.2.length c2) (certT cs k).2.2.2.2 := by
 have hl := h.1
 rw [certS_len] at hl
 obtain ⟨b, o, e, hb, hc⟩ := h.at_ (by omega)
 obtain ⟨g0, g1, g2, g3, g4⟩ := certS_get cs k _ (certT_get cs k hk)
 obtain ⟨u0, d0, f0⟩ := hc _ _ g0
 obtain ⟨u1, d1, f1⟩ := hc _ _ g1
 obtain ⟨u2, d2, f2⟩ := hc _ _ g2
 obtain ⟨u3, d3, f3⟩ := hc _ _ g3
 obtain ⟨u4, d4, f4⟩ := hc _ _ g4
 obtain ⟨rfl, -⟩ := f0
 obtain ⟨rfl, -⟩ := f2
 obtain ⟨rfl, -⟩ := f3
 have f1 : SeesB w B u1 (certT cs k).2.1 := f1
 have f4 : SeesB w B u4 (certT cs k).2.2.2.2 := f4
 obtain ⟨A1, c1, rfl, -, -⟩ := f1.mk_
 obtain ⟨A2, c2, rfl, -, -⟩ := f4.mk_
 exact ⟨b, o, A1, c1, A2, c2, e, hb, d0, by rw [Nat.add_assoc]; exact d1, f1, by rw [Nat.add_assoc]; exact d2, by rw [Nat.add_assoc]; exact d3, by rw [Nat.add_assoc]; exact d4, f4⟩
theorem cert_info : (Tryz.prog.info? 70).map (fun i => (i.zero, i.size, i.bytes)) = some (some (.agg #[.string (strB []), .slice none 0 0, .int .i64 0, .int .i64 0, .slice none 0 0]), 5, 80) := by kernel_rfl
end Go.Proofs.YtjgepckncogdaaaGreat
