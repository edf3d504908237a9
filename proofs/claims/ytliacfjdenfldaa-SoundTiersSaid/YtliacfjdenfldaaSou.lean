import Derived.Test.YtliacfjdenfldaaRd
import Derived.Test.YtliacfjdenfldaaSm
import Derived.Laws.StructEq
namespace Go.Proofs.Ytliacfjdenfldaa
open Go.RowKit Go.Proofs.Sm Go.Proofs.YtliacfjdenfldaaW.PrintWords
set_option linter.unusedSimpArgs false
set_option linter.unusedVariables false

abbrev wTier : ByteArray := ⟨#[116, 105, 101, 114]⟩
abbrev wCategory : ByteArray := ⟨#[99, 97, 116, 101, 103, 111, 114, 121]⟩
abbrev wCap : ByteArray := ⟨#[99, 97, 112]⟩
abbrev wMinimum : ByteArray := ⟨#[109, 105, 110, 105, 109, 117, 109]⟩
abbrev wTax : ByteArray := ⟨#[116, 97, 120]⟩
abbrev wReserve : ByteArray := ⟨#[114, 101, 115, 101, 114, 118, 101]⟩
def formsA : Array MapEntry := #[⟨.string wTier, .string ⟨#[107, 114]⟩, 0⟩, ⟨.string wCategory, .string ⟨#[110, 114]⟩, 1⟩, ⟨.string wCap, .string ⟨#[107]⟩, 2⟩, ⟨.string wMinimum, .string ⟨#[107]⟩, 3⟩, ⟨.string wTax, .string ⟨#[114]⟩, 4⟩, ⟨.string wReserve, .string ⟨#[114, 107]⟩, 5⟩]

set_option maxHeartbeats 1000000 in
theorem forms_any (w : World) :
    Calls Try.prog 101 #[] w fun e w' => e = .returned (.map (some w.heap.size)) ∧ w' = w.alloc (.map formsA 6) := by
  have hmm := @run_makeMap Try.prog
  have i0 := run_ins Try.underlying181 Try.underlying9 w #[] 0 wTier (.string ⟨#[107, 114]⟩) (by kernel_rfl)
  have i1 := run_ins Try.underlying181 Try.underlying9 w #[⟨.string wTier, .string ⟨#[107, 114]⟩, 0⟩] 1 wCategory (.string ⟨#[110, 114]⟩) (by kernel_rfl)
  have i2 := run_ins Try.underlying181 Try.underlying9 w #[⟨.string wTier, .string ⟨#[107, 114]⟩, 0⟩, ⟨.string wCategory, .string ⟨#[110, 114]⟩, 1⟩] 2 wCap (.string ⟨#[107]⟩) (by kernel_rfl)
  have i3 := run_ins Try.underlying181 Try.underlying9 w #[⟨.string wTier, .string ⟨#[107, 114]⟩, 0⟩, ⟨.string wCategory, .string ⟨#[110, 114]⟩, 1⟩, ⟨.string wCap, .string ⟨#[107]⟩, 2⟩] 3 wMinimum (.string ⟨#[107]⟩) (by kernel_rfl)
  have i4 := run_ins Try.underlying181 Try.underlying9 w #[⟨.string wTier, .string ⟨#[107, 114]⟩, 0⟩, ⟨.string wCategory, .string ⟨#[110, 114]⟩, 1⟩, ⟨.string wCap, .string ⟨#[107]⟩, 2⟩, ⟨.string wMinimum, .string ⟨#[107]⟩, 3⟩] 4 wTax (.string ⟨#[114]⟩) (by kernel_rfl)
  have i5 := run_ins Try.underlying181 Try.underlying9 w #[⟨.string wTier, .string ⟨#[107, 114]⟩, 0⟩, ⟨.string wCategory, .string ⟨#[110, 114]⟩, 1⟩, ⟨.string wCap, .string ⟨#[107]⟩, 2⟩, ⟨.string wMinimum, .string ⟨#[107]⟩, 3⟩, ⟨.string wTax, .string ⟨#[114]⟩, 4⟩] 5 wReserve (.string ⟨#[114, 107]⟩) (by kernel_rfl)
  simp only [List.push_toArray, List.cons_append, List.nil_append, Nat.reduceAdd] at i0 i1 i2 i3 i4 i5
  go_enter Try.func101, Try.ntmps101
  go_wp2
  go_ret
  exact ⟨rfl, rfl⟩

/-- a plan's kinds -/
def knownB (s : ByteArray) : Bool := s == wTier || s == wCategory || s == wCap || s == wMinimum || s == wTax || s == wReserve
theorem forms_find (s : ByteArray) : ∃ r, Instr.findNow .string (.string s) formsA.toList 0 = some r ∧ r.isSome = knownB s := by
  unfold knownB
  have e : formsA.toList = [⟨.string wTier, .string ⟨#[107, 114]⟩, 0⟩, ⟨.string wCategory, .string ⟨#[110, 114]⟩, 1⟩, ⟨.string wCap, .string ⟨#[107]⟩, 2⟩, ⟨.string wMinimum, .string ⟨#[107]⟩, 3⟩, ⟨.string wTax, .string ⟨#[114]⟩, 4⟩, ⟨.string wReserve, .string ⟨#[114, 107]⟩, 5⟩] := rfl
  rw [e]
  simp only [Instr.findNow, Instr.sameNow]
  cases h1 : s == wTier
  · cases h2 : s == wCategory
    · cases h3 : s == wCap
      · cases h4 : s == wMinimum
        · cases h5 : s == wTax
          · cases h6 : s == wReserve
            · exact ⟨_, rfl, rfl⟩
            · exact ⟨_, rfl, rfl⟩
          · exact ⟨_, rfl, rfl⟩
        · exact ⟨_, rfl, rfl⟩
      · exact ⟨_, rfl, rfl⟩
    · exact ⟨_, rfl, rfl⟩
  · exact ⟨_, rfl, rfl⟩

set_option maxHeartbeats 1000000 in
theorem known_any (s : ByteArray) (w : World) :
    Calls Try.prog 97 #[.string s] w fun e w' => e = .returned (.bool (knownB s)) ∧ w' = w.alloc (.map formsA 6) := by
  obtain ⟨r, hr, hk⟩ := forms_find s
  have hl := run_look Try.underlying181 Try.underlying9 (w := w.alloc (.map formsA 6)) (b := w.heap.size) (es := formsA) (clock := 6) (by show (w.heap.push _)[w.heap.size]? = _; simp) s hr (z := .string ⟨#[]⟩) (by kernel_rfl) true
  have HK := hidI hk
  clear hr hk
  go_enter Try.func97, Try.ntmps97
  go_wp2_with (go_at_call 101; refine (forms_any _).mono ?_; rintro e w' ⟨rfl, rfl⟩)
  go_ret
  exact ⟨ret_bool HK.out, rfl⟩

/-- what a rule of a tier is: its error -/
def tierC (t n rate : Int) : Int := if n < 0 ∨ 1125899906842624 < n ∨ rate < 0 ∨ 10000 < rate then 2 else if (t < 0 ∧ n ≠ 0) ∨ (0 ≤ t ∧ n ≤ t) then 12 else 0

theorem known_tier : knownB wTier = true := by decide +kernel

def RuleT (b : Nat) (mv : Value) (t n rate : Int) (w : World) (e : Ending) (w' : World) : Prop :=
  e = .returned (.int .i64 (tierC t n rate)) ∧ Blk w' b #[mv, .int .i64 (if tierC t n rate = 0 then n else t)] 154 ∧ w.grownBy w' (some b)
theorem RuleT.no {b : Nat} {mv : Value} {t n rate c : Int} {w w' : World} (h : tierC t n rate = c) (hc : c ≠ 0) (hB : Blk w' b #[mv, .int .i64 t] 154) (hg : w.grownBy w' (some b)) : RuleT b mv t n rate w (.returned (.int .i64 c)) w' :=
  ⟨by rw [h], by rw [h, if_neg hc]; exact hB, hg⟩
theorem RuleT.yes {b : Nat} {mv : Value} {t n rate : Int} {w w' : World} (h : tierC t n rate = 0) (hB : Blk w' b #[mv, .int .i64 n] 154) (hg : w.grownBy w' (some b)) : RuleT b mv t n rate w (.returned (.int .i64 0)) w' :=
  ⟨by rw [h], by rw [h, if_pos rfl]; exact hB, hg⟩

theorem cat_tier (nm : ByteArray) (h : nm.size ≤ 140737488351232) : (wTier ++ (⟨#[32]⟩ : ByteArray)).size + nm.size ≤ 9223372036854775807 := by
  have : (wTier ++ (⟨#[32]⟩ : ByteArray)).size = 5 := rfl
  omega
set_option maxHeartbeats 2000000 in
theorem rule_tier (b : Nat) (mv : Value) (t : Int) (nm : ByteArray) (n rate : Int) (w : World) (hB : Blk w b #[mv, .int .i64 t] 154) (hr : 0 ≤ rate ∧ rate ≤ 10000) (hnm : nm.size ≤ 140737488351232) :
    Calls Try.prog 77 #[.pointer (some ⟨b, 0, none⟩), .agg #[.string wTier, .string nm, .int .i64 n, .int .i64 rate]] w (RuleT b mv t n rate w) := by
  obtain ⟨hr1, hr2⟩ := hr
  have KT := hidI known_tier
  have hcat := cat_tier nm hnm
  have c0 := hB.c; have l0 := hB.lt; have f0 := hB.f
  have HB := hidI hB
  clear hB
  by_cases c1 : n < 0
  · have ht : Hid (tierC t n rate = 2) := by unfold tierC; exact if_pos (by omega)
    go_enter Try.func77, Try.ntmps77
    go_wp2_with (go_at_call 97; refine (known_any _ _).mono ?_; rintro e w' ⟨rfl, rfl⟩; rw [KT.out])
    go_ret
    exact RuleT.no ht.out (by decide) ((HB.out.al _).al _) (gb_alloc (gb_alloc (gb_refl _ _) _) _)
  by_cases c2 : 1125899906842624 < n
  · have ht : Hid (tierC t n rate = 2) := by unfold tierC; exact if_pos (by omega)
    go_enter Try.func77, Try.ntmps77
    go_wp2_with (go_at_call 97; refine (known_any _ _).mono ?_; rintro e w' ⟨rfl, rfl⟩; rw [KT.out])
    go_ret
    exact RuleT.no ht.out (by decide) ((HB.out.al _).al _) (gb_alloc (gb_alloc (gb_refl _ _) _) _)
  have r1 : decide (rate < 0) = false := by simpa using hr1
  have r2 : decide (10000 < rate) = false := by simpa using hr2
  have n1 : decide (n < 0) = false := by simpa using c1
  have n2 : decide (1125899906842624 < n) = false := by simpa using c2
  have e0 : tierC t n rate = if (t < 0 ∧ n ≠ 0) ∨ (0 ≤ t ∧ n ≤ t) then 12 else 0 := by unfold tierC; exact if_neg (by omega)
  by_cases d1 : t < 0
  · have k1 : decide (t < 0) = true := by simpa using d1
    have k3 : decide (0 ≤ t) = false := by simpa using d1
    by_cases d2 : n = 0
    · have ht : Hid (tierC t n rate = 0) := by rw [e0]; exact if_neg (by omega)
      clear e0
      have k2 : (n == 0) = true := by simpa using d2
      have k2b : (n != 0) = false := by simpa using d2
      clear d2
      go_enter Try.func77, Try.ntmps77
      go_wp2_with (go_at_call 97; refine (known_any _ _).mono ?_; rintro e w' ⟨rfl, rfl⟩; rw [KT.out])
      go_quiet (fail)
      go_wp2
      go_ret
      exact RuleT.yes ht.out (((((HB.out.al _).al _).drN _).st 1 _).of rfl) (gb_set (gb_drewN (gb_alloc (gb_alloc (gb_refl _ _) _) _) _) _ _)
    · have ht : Hid (tierC t n rate = 12) := by rw [e0]; exact if_pos (by omega)
      clear e0
      have k2 : (n == 0) = false := by simpa using d2
      have k2b : (n != 0) = true := by simpa using d2
      clear d2
      go_enter Try.func77, Try.ntmps77
      go_wp2_with (go_at_call 97; refine (known_any _ _).mono ?_; rintro e w' ⟨rfl, rfl⟩; rw [KT.out])
      go_quiet (fail)
      go_wp2
      go_ret
      exact RuleT.no ht.out (by decide) (((HB.out.al _).al _).drN _) (gb_drewN (gb_alloc (gb_alloc (gb_refl _ _) _) _) _)
  · have k1 : decide (t < 0) = false := by simpa using d1
    have k3 : decide (0 ≤ t) = true := by simpa using d1
    by_cases d2 : n ≤ t
    · have ht : Hid (tierC t n rate = 12) := by rw [e0]; exact if_pos (by omega)
      clear e0
      have k2 : decide (n ≤ t) = true := by simpa using d2
      go_enter Try.func77, Try.ntmps77
      go_wp2_with (go_at_call 97; refine (known_any _ _).mono ?_; rintro e w' ⟨rfl, rfl⟩; rw [KT.out])
      go_quiet (fail)
      go_wp2
      go_ret
      exact RuleT.no ht.out (by decide) (((HB.out.al _).al _).drN _) (gb_drewN (gb_alloc (gb_alloc (gb_refl _ _) _) _) _)
    · have ht : Hid (tierC t n rate = 0) := by rw [e0]; exact if_neg (by omega)
      clear e0
      have k2 : decide (n ≤ t) = false := by simpa using d2
      go_enter Try.func77, Try.ntmps77
      go_wp2_with (go_at_call 97; refine (known_any _ _).mono ?_; rintro e w' ⟨rfl, rfl⟩; rw [KT.out])
      go_quiet (fail)
      go_wp2
      go_ret
      exact RuleT.yes ht.out (((((HB.out.al _).al _).drN _).st 1 _).of rfl) (gb_set (gb_drewN (gb_alloc (gb_alloc (gb_refl _ _) _) _) _) _ _)

end Go.Proofs.Ytliacfjdenfldaa
