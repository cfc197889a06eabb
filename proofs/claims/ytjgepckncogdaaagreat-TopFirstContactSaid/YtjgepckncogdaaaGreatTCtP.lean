/- What a law leans on beyond the base: contracts, plain functions, walks. Conditions: those of each theorem. -/
import Derived.Test.YtjgepckncogdaaaGreatQCtP
import Derived.Test.YtjgepckncogdaaaGreatTUC
set_option linter.unusedVariables false
set_option linter.unusedSimpArgs false
namespace Go.Proofs.YtjgepckncogdaaaGreat
open Go Go.RowKit
set_option linter.unusedVariables false
theorem cert_drop (cs : List CertG) (a : Nat) : (certS cs).drop (a * 5) = certS (cs.drop a) := by
 induction a generalizing cs with
 | zero => simp
 | succ a ih =>
   cases cs with
   | nil => simp [certS]
   | cons t r =>
     rw [List.drop_succ_cons, ← ih r, Nat.succ_mul, Nat.add_comm, ← List.drop_drop]
     rfl
theorem cert_take (cs : List CertG) (a : Nat) : (certS cs).take (a * 5) = certS (cs.take a) := by
 induction a generalizing cs with
 | zero => simp [certS]
 | succ a ih =>
   cases cs with
   | nil => simp [certS]
   | cons t r =>
     rw [List.take_succ_cons, Nat.succ_mul]
     show ([Spec.val (.string (strB t.1)), .byt t.2.1, .val (.int .i64 t.2.2.1), .val (.int .i64 t.2.2.2.1), .byt t.2.2.2.2] ++ certS r).take (a * 5 + 5) = [Spec.val (.string (strB t.1)), .byt t.2.1, .val (.int .i64 t.2.2.1), .val (.int .i64 t.2.2.2.1), .byt t.2.2.2.2] ++ certS (r.take a)
     rw [← ih r, Nat.add_comm (a * 5) 5, List.take_append, List.take_of_length_le (by simp)]
     simp
theorem certs_cut {w : World} {B n c a b : Nat} {A : Option Addr} {cs : List CertG} (h : SeesR w B (.slice A n c) 5 n (certS cs)) (hn : cs.length = n) (hab : a ≤ b) (hb : b ≤ n) :
 SeesR w B (.slice (cutA A c a 5) (b - a) (c - a)) 5 (b - a) (certS ((cs.drop a).take (b - a))) := by
 have := h.cut hab hb
 rwa [cert_drop, cert_take] at this
theorem cert_size (w : World) : (sizeOf 70).run Tryz.prog w = .ok 5 w := by kernel_rfl
end Go.Proofs.YtjgepckncogdaaaGreat
