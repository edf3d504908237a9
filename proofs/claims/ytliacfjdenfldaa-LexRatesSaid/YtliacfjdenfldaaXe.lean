/- lex: how many figures, and what number: figures, number. -/
import Derived.Test.YtliacfjdenfldaaXd
namespace Go.Proofs.Ytliacfjdenfldaa
open Go.RowKit Go.Proofs.Kq
set_option linter.unusedSimpArgs false
set_option linter.unusedVariables false
def nd (l : List Int) : Nat := (l.takeWhile isDig).length
theorem nd_le (l : List Int) : nd l ≤ l.length := by
  unfold nd; exact (List.takeWhile_prefix isDig).length_le
theorem nd_yes (l : List Int) (k : Nat) (h : k < nd l) : isDig (l[k]'(Nat.lt_of_lt_of_le h (nd_le l))) = true := by
  induction l generalizing k with
  | nil => simp [nd] at h
  | cons c l ih =>
    by_cases hc : isDig c = true
    · cases k with
      | zero => simpa using hc
      | succ k =>
        have h' : k < nd l := by simpa [nd, List.takeWhile_cons, hc] using h
        simpa using ih k h'
    · simp [nd, List.takeWhile_cons, hc] at h
theorem nd_no (l : List Int) (h : nd l < l.length) : isDig (l[nd l]'h) = false := by
  induction l with
  | nil => simp at h
  | cons c l ih =>
    by_cases hc : isDig c = true
    · have e : nd (c :: l) = nd l + 1 := by simp [nd, List.takeWhile_cons, hc]
      have h' : nd l < l.length := by rw [e] at h; simpa using h
      have := ih h'
      simp only [e, List.getElem_cons_succ]; exact this
    · have e : nd (c :: l) = 0 := by simp [nd, List.takeWhile_cons, hc]
      simp only [e, List.getElem_cons_zero]; simpa using hc
def figs (l : List Int) : Nat × Int := if nd l ≤ 16 then (nd l, dval (l.take (nd l))) else (16, -1)
theorem figs_le (l : List Int) : (figs l).1 ≤ 16 ∧ (figs l).1 ≤ l.length := by
  unfold figs
  have := nd_le l
  split
  · exact ⟨by omega, by omega⟩
  · exact ⟨by simp, by simp; omega⟩
theorem dval_bd' : ∀ (n : Nat) (l : List Int), l.length = n → (∀ z ∈ l, isDig z = true) → 0 ≤ dval l ∧ dval l < 10 ^ l.length
  | 0, l, e, _ => by
    obtain rfl := List.length_eq_zero_iff.1 e
    simp [dval]
  | n + 1, l, e, h => by
    rcases List.eq_nil_or_concat l with rfl | ⟨L, b, rfl⟩
    · simp at e
    · rw [List.concat_eq_append] at *
      have h1 := dval_bd' n L (by simpa using e) (fun z hz => h z (by simp [hz]))
      have h2 := h b (by simp)
      simp [isDig] at h2
      rw [dval_snoc, List.length_append, List.length_singleton, Int.pow_succ]
      generalize (10 : Int) ^ L.length = p at *
      omega
theorem dval_bd (l : List Int) (h : ∀ z ∈ l, isDig z = true) : 0 ≤ dval l ∧ dval l < 10 ^ l.length := dval_bd' _ l rfl h
theorem take_nd (l : List Int) : ∀ z ∈ l.take (nd l), isDig z = true := by
  intro z hz
  obtain ⟨i, hi, rfl⟩ := List.mem_iff_getElem.1 hz
  rw [List.length_take] at hi
  rw [List.getElem_take]
  exact nd_yes l i (by omega)
theorem figs_bd (l : List Int) : -1 ≤ (figs l).2 ∧ (figs l).2 < 10000000000000000 := by
  unfold figs
  split
  · rename_i h
    have h1 := dval_bd _ (take_nd l)
    have h2 := pow10_le (l.take (nd l)).length 16 (by rw [List.length_take]; omega)
    have h3 : (10 : Int) ^ 16 = 10000000000000000 := by decide
    simp only; omega
  · simp
set_option maxHeartbeats 1000000 in
theorem figures_long (s : ByteArray) (w : World) (hp : 17 ≤ s.size) (hs : s.size ≤ 140737488351232)
    (hd : ∀ i (h : i < 17), isDig ((s[i]'(by omega)).toNat : Int) = true) :
    Calls Try.prog 98 #[.string s] w fun e w' => e = .returned (.tuple #[.int .i64 16, .int .i64 (-1)]) ∧ w = w' := by
  have HD := hidI hd
  clear hd
  go_enter Try.func98, Try.ntmps98
  go_wp2
  go_loopw [4, 5] (fun n i wr => wr = w ∧ ∃ k : Nat, k ≤ 16 ∧ i = .int .i64 k ∧ ∃ v : Int, n = .int .i64 v ∧ 0 ≤ v ∧ Hid (v < 10 ^ k)) (fun _ i _ => 16 - (intOf i).toNat)
  case atStart => exact ⟨rfl, 0, Nat.zero_le _, rfl, 0, rfl, by omega, hidI (by decide)⟩
  case round =>
    obtain ⟨rfl, k, hk, rfl, v, rfl, hv0, hv1⟩ := hrel
    have hks : k < s.size := by omega
    have hb := s[k].toNat_lt
    have hdg : isDig (s[k].toNat : Int) = true := HD.out k (by omega)
    have hrng : 48 ≤ (s[k].toNat : Int) ∧ (s[k].toNat : Int) ≤ 57 := by simpa [isDig] using hdg
    have HDG := hidI hdg
    by_cases hlt : k < 16
    · have h10 : (10 : Int) ^ k ≤ 10 ^ 15 := pow10_le k 15 (by omega)
      have hv2 := hv1.out
      have e1 : v ≤ 1000000000000000 := by
        have : (10 : Int) ^ 15 = 1000000000000000 := by decide
        omega
      have hne : ¬ ((k : Int) = 16) := by omega
      have hst2 : Hid (10 * v + ((s[k].toNat : Int) - 48) < 10 ^ (k + 1)) := by
        show 10 * v + ((s[k].toNat : Int) - 48) < _
        rw [Int.pow_succ]
        generalize (10 : Int) ^ k = q at *
        omega
      clear hdg h10 hv2 hv1
      go_wp2_with (first | (go_at_call 80; refine (digit_any _ _).mono ?_; rintro e w' ⟨rfl, rfl⟩; rw [HDG.out]) | fail)
      go_roundw
      case rel => exact ⟨trivial, k + 1, by omega, by go_num, _, rfl, by omega, hst2⟩
      case measure => simp [intOf]; omega
    · obtain rfl : k = 16 := by omega
      clear hdg hv1
      go_wp2_with (first | (go_at_call 80; refine (digit_any _ _).mono ?_; rintro e w' ⟨rfl, rfl⟩; rw [HDG.out]) | fail)
      go_ret2
      exact ⟨rfl, rfl⟩
theorem bn_isDig (s : ByteArray) (k : Nat) (h : k < s.size) : isDig (s[k].toNat : Int) = isDig ((bn s)[k]'(by rw [bn_len]; exact h)) := by rw [bn_at s k h]
theorem figs_any (s : ByteArray) (w : World) (hs : s.size ≤ 140737488351232) :
    Calls Try.prog 98 #[.string s] w fun e w' => e = .returned (.tuple #[.int .i64 (figs (bn s)).1, .int .i64 (figs (bn s)).2]) ∧ w = w' := by
  have hle := nd_le (bn s)
  rw [bn_len] at hle
  by_cases h : nd (bn s) ≤ 16
  · have := figures_any s (nd (bn s)) w hle h hs (fun i hi => by rw [bn_isDig s i (by omega)]; exact nd_yes _ i hi) (fun hh => by rw [bn_isDig s _ hh]; exact nd_no _ (by rw [bn_len]; exact hh))
    unfold figs; rw [if_pos h]; exact this
  · have := figures_long s w (by omega) hs (fun i hi => by rw [bn_isDig s i (by omega)]; exact nd_yes _ i (by omega))
    unfold figs; rw [if_neg h]; exact this
end Go.Proofs.Ytliacfjdenfldaa
