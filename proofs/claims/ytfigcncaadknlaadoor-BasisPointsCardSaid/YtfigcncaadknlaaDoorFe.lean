/- Plain: both orders are one. -/
import Derived.Test.YtfigcncaadknlaaDoorFd
namespace Go.Proofs.YtfigcncaadknlaaDoor
set_option linter.unusedVariables false
set_option linter.unusedSimpArgs false
theorem rv_lt {r s : Nat} : Fl.rv r < Fl.rv s ↔ r < s := by
  constructor
  · intro h
    by_cases g : r < s
    · exact g
    · have := (Fl.rv_le (r := s) (s := r)).2 (by omega)
      omega
  · exact Fl.rv_mono
theorem rv_pos {r : Nat} : 0 < Fl.rv r ↔ 0 < r := by
  have := rv_lt (r := 0) (s := r)
  rwa [Fl.rv_zero] at this
theorem cmpF_eq (a b : Nat) (ha : a < 2 ^ 64) (hb : b < 2 ^ 64) : cmpF a b = rcmp a b := by
  have hab : Fl.rv (Fl.rg a) < Fl.rv (Fl.rg b) ↔ Fl.rg a < Fl.rg b := rv_lt
  have hba : Fl.rv (Fl.rg b) < Fl.rv (Fl.rg a) ↔ Fl.rg b < Fl.rg a := rv_lt
  have pa : 0 < Fl.rv (Fl.rg a) ↔ 0 < Fl.rg a := rv_pos
  have pb : 0 < Fl.rv (Fl.rg b) ↔ 0 < Fl.rg b := rv_pos
  have hi := inf_val
  have la : Fl.rg a < 9223372036854775808 := Nat.mod_lt _ (by decide)
  have lb : Fl.rg b < 9223372036854775808 := Nat.mod_lt _ (by decide)
  unfold cmpF cc rcmp zf key nanB Fl.sv
  generalize Fl.rv (Fl.rg a) = x at *
  generalize Fl.rv (Fl.rg b) = y at *
  generalize Fl.rg a = r at *
  generalize Fl.rg b = s at *
  generalize Fl.sg a = p at *
  generalize Fl.sg b = q at *
  generalize Fl.inf = i at *
  subst hi
  by_cases h1 : 9218868437227405312 < r
  · by_cases h2 : 9218868437227405312 < s
    · cases p <;> cases q <;> simp [h1, h2] <;> (repeat' split) <;> omega
    · cases p <;> cases q <;> simp [h1, h2] <;> (repeat' split) <;> omega
  · by_cases h2 : 9218868437227405312 < s
    · cases p <;> cases q <;> simp [h1, h2] <;> (repeat' split) <;> omega
    · cases p <;> cases q <;> simp [h1, h2] <;> (repeat' split) <;> omega
theorem rcmp_neg (a b : Nat) : rcmp a b = -rcmp b a := by unfold rcmp; (repeat' split) <;> omega
theorem rcmp_self (a : Nat) : rcmp a a = 0 := by unfold rcmp; simp
theorem rcmp_range (a b : Nat) : rcmp a b = -1 ∨ rcmp a b = 0 ∨ rcmp a b = 1 := by unfold rcmp; (repeat' split) <;> simp
theorem rcmp_trans (a b c : Nat) (h1 : ¬ 0 < rcmp a b) (h2 : ¬ 0 < rcmp b c) : rcmp a c ≤ 0 := by
  have h1' : key a ≤ key b := by unfold rcmp at h1; (repeat' split at h1) <;> omega
  have h2' : key b ≤ key c := by unfold rcmp at h2; (repeat' split at h2) <;> omega
  unfold rcmp; (repeat' split) <;> omega
end Go.Proofs.YtfigcncaadknlaaDoor
