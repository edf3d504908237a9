import Derived.Test.YtliacfjdenfldaaRd
import Derived.Test.YtliacfjdenfldaaKq
import Derived.Laws.StructEq
namespace Go.Proofs.Ytliacfjdenfldaa
open Go.RowKit Go.Proofs.Kq
open Go.Proofs.YtliacfjdenfldaaW.PrintWords (pw_cell_below step_append_cells print_append_cells Kd Kd.C Kd.C_below)
open Go.Proofs.YtliacfjdenfldaaW.PrintLast
set_option linter.unusedSimpArgs false
set_option linter.unusedVariables false

/-- is it an amount -/
def i64 (x : Int) : Prop := -9223372036854775808 ≤ x ∧ x ≤ 9223372036854775807
instance (x : Int) : Decidable (i64 x) := inferInstanceAs (Decidable (_ ∧ _))
def sumL : Int → List Int → Option Int
  | s, [] => some s
  | s, n :: l => if i64 (s + n) then sumL (s + n) l else none
theorem sumL_skip : ∀ (k : Nat) (xs : List Int) (s s' : Int), k ≤ xs.length → sumL s (xs.take k) = some s' → sumL s xs = sumL s' (xs.drop k)
  | 0, xs, s, s', _, h => by simp [sumL] at h; subst h; simp
  | k + 1, [], s, s', hk, _ => by simp at hk
  | k + 1, x :: xs, s, s', hk, h => by
    simp only [List.take_succ_cons, sumL] at h ⊢
    split at h
    · rename_i h1
      rw [if_pos h1, List.drop_succ_cons]
      exact sumL_skip k xs (s + x) s' (by simpa using hk) h
    · cases h
theorem sumL_snoc : ∀ (xs : List Int) (s s' n : Int), sumL s xs = some s' → i64 (s' + n) → sumL s (xs ++ [n]) = some (s' + n)
  | [], s, s', n, h, hn => by simp [sumL] at h; subst h; simp [sumL, hn]
  | x :: xs, s, s', n, h, hn => by
    simp only [List.cons_append, sumL] at h ⊢
    split at h
    · rename_i h1; rw [if_pos h1]; exact sumL_snoc xs _ s' n h hn
    · cases h
theorem sumL_i64 : ∀ (xs : List Int) (s s' : Int), i64 s → sumL s xs = some s' → i64 s'
  | [], s, s', hs, h => by simp [sumL] at h; subst h; exact hs
  | x :: xs, s, s', hs, h => by
    simp only [sumL] at h
    split at h
    · rename_i h1; exact sumL_i64 xs _ s' h1 h
    · cases h
theorem sumL_over {k : Nat} {xs : List Int} {s' : Int} (hk : k < xs.length) (h : sumL 0 (xs.take k) = some s') (ho : ¬ i64 (s' + xs[k])) : sumL 0 xs = none := by
  rw [sumL_skip k xs 0 s' (by omega) h, List.drop_eq_getElem_cons hk]
  simp only [sumL, if_neg ho]
def sumN (xs : List Int) : Int := (sumL 0 xs).getD 0
def sumOk (xs : List Int) : Bool := (sumL 0 xs).isSome
theorem sum_some {xs : List Int} {s : Int} (h : sumL 0 xs = some s) : sumN xs = s ∧ sumOk xs = true := by simp [sumN, sumOk, h]
theorem sum_none {xs : List Int} (h : sumL 0 xs = none) : sumN xs = 0 ∧ sumOk xs = false := by simp [sumN, sumOk, h]
def sumE (xs : List Int) : Int := if sumOk xs = true then 0 else 2
def l64 (z : Int) : List Value := [.int .i64 z]
theorem l64_one : ∀ x : Int, ∀ u ∈ l64 x, u.oneCell' = true := by intro x u hu; rcases List.mem_singleton.1 hu with rfl; rfl
def d64 : Kd Int := Kp.plain 1 l64 (fun _ => rfl) l64_one
theorem info2 : (Try.prog.info? 2).map (fun i => (i.zero, i.size, i.bytes)) = some (some (.int .i64 0), 1, 8) := by kernel_rfl
set_option maxHeartbeats 2000000 in
theorem madd_any (A : Option Addr) (xs : List Int) (c : Nat) (w : World) (hC : Kd.C d64 w A xs.length xs) (hl : xs.length ≤ 1000000000) (hx : ∀ x ∈ xs, i64 x) :
    Calls Try.prog 92 #[.slice A xs.length c] w fun e w' => e = .returned (.tuple #[.int .i64 (sumN xs), .int .i64 (sumE xs)]) ∧ w = w' := by
  by_cases h0 : xs = []
  · subst h0
    go_enter Try.func92, Try.ntmps92
    go_wp2
    refine wp_loop_rounds 1 ?_
    rw [rounds_succ]
    go_wp2
    go_ret2
    exact ⟨rfl, rfl⟩
  obtain ⟨b, off, rfl, hq⟩ := Kp.C_open hC (List.length_pos_iff.2 h0) (by decide)
  have HX := hidI hq
  have HO := hidI hx
  clear hC hq hx h0
  go_enter Try.func92, Try.ntmps92
  go_wp2
  go_loop [4, 10] (fun s i => ∃ k : Nat, k ≤ xs.length ∧ i = .int .i64 k ∧ ∃ s' : Int, s = .int .i64 s' ∧ Hid (sumL 0 (xs.take k) = some s')) (fun _ i => xs.length - (intOf i).toNat)
  case atStart => exact ⟨0, Nat.zero_le _, rfl, 0, rfl, hidI (by simp [sumL])⟩
  case round =>
    obtain ⟨k, hk, rfl, s', rfl, hs⟩ := hrel
    have hs1 : i64 s' := sumL_i64 _ 0 _ (by unfold i64; omega) hs.out
    unfold i64 at hs1
    by_cases hlt : k < xs.length
    · obtain ⟨n, hn⟩ : ∃ n, n = xs[k] := ⟨_, rfl⟩
      have q0 : w.cell? ⟨b, off + k, none⟩ = some (.int .i64 n) := by
        have := HX.out k hlt 0 _ rfl
        rw [Nat.mul_one, Nat.add_zero] at this
        rw [hn]; exact this
      have hn1 : i64 n := by rw [hn]; exact HO.out _ (List.getElem_mem _)
      unfold i64 at hn1
      by_cases hin : i64 (s' + n)
      · have hst : Hid (sumL 0 (xs.take (k + 1)) = some (s' + n)) := by show _ = _; rw [List.take_succ_eq_append_getElem hlt, ← hn]; exact sumL_snoc _ _ _ _ hs.out hin
        unfold i64 at hin
        clear hn
        by_cases h1 : n > 0
        · have t1 : decide (s' + n > s') = true := by simp; omega
          go_wp2
          go_round
          case rel => exact ⟨k + 1, by omega, by go_num, _, rfl, hst⟩
          case measure => simp [intOf]; omega
        · have t1 : decide (s' + n > s') = false := by simp; omega
          go_wp2
          go_round
          case rel => exact ⟨k + 1, by omega, by go_num, _, rfl, hst⟩
          case measure => simp [intOf]; omega
      · have hov : Hid (sumL 0 xs = none) := sumL_over hlt hs.out (by rw [← hn]; exact hin)
        obtain ⟨r1, r2⟩ := sum_none hov.out
        have R1 := hidI r1
        have R2 : Hid (sumE xs = 2) := by show _ = _; unfold sumE; rw [r2]; rfl
        unfold i64 at hin
        clear hn r1 r2
        by_cases h1 : n > 0
        · have hw : wrap64 (s' + n) = s' + n - 18446744073709551616 := by unfold wrap64; omega
          obtain ⟨v, hv⟩ : ∃ v, v = wrap64 (s' + n) := ⟨_, rfl⟩
          have t1 : decide (v > s') = false := by rw [hv, hw]; simp; omega
          have HV := hidI hv.symm
          clear hw
          have hv2 : wrap64 (s' + n) = v := HV.out
          clear hv HV
          have hn0 : (n != 0) = true := by simp; omega
          go_wp2
          go_ret2
          exact ⟨by rw [R1.out, R2.out]; rfl, rfl⟩
        · have hw : wrap64 (s' + n) = s' + n + 18446744073709551616 := by unfold wrap64; omega
          obtain ⟨v, hv⟩ : ∃ v, v = wrap64 (s' + n) := ⟨_, rfl⟩
          have t1 : decide (v > s') = true := by rw [hv, hw]; simp; omega
          clear hw
          have hv2 : wrap64 (s' + n) = v := hv.symm
          clear hv
          have hn0 : (n != 0) = true := by simp; omega
          go_wp2
          go_ret2
          exact ⟨by rw [R1.out, R2.out]; rfl, rfl⟩
    · have e : k = xs.length := by omega
      have hs2 : sumL 0 xs = some s' := by have := hs.out; rw [e, List.take_length] at this; exact this
      obtain ⟨r1, r2⟩ := sum_some hs2
      have R1 := hidI r1
      have R2 : Hid (sumE xs = 0) := by show _ = _; unfold sumE; rw [r2]; rfl
      clear e hs2 r1 r2
      go_wp2
      go_ret2
      exact ⟨by rw [R1.out, R2.out]; rfl, rfl⟩

def raN (a b : Int) : Int := if i64 (a + b) then a + b else 0
def raB (a b : Int) : Bool := decide (i64 (a + b))
theorem raN_in {a b : Int} (h : i64 (a + b)) : raN a b = a + b := if_pos h
theorem raN_out {a b : Int} (h : ¬ i64 (a + b)) : raN a b = 0 := if_neg h
theorem raB_in {a b : Int} (h : i64 (a + b)) : raB a b = true := decide_eq_true h
theorem raB_out {a b : Int} (h : ¬ i64 (a + b)) : raB a b = false := decide_eq_false h
set_option maxHeartbeats 2000000 in
theorem radd_any (a b : Int) (w : World) (ha : i64 a) (hb : i64 b) :
    Calls Try.prog 93 #[.int .i64 a, .int .i64 b] w fun e w' => e = .returned (.tuple #[.int .i64 (raN a b), .bool (raB a b)]) ∧ w = w' := by
  unfold i64 at ha hb
  by_cases hin : i64 (a + b)
  · have HI := hidI hin
    unfold i64 at hin
    by_cases h1 : b > 0
    · have t1 : decide (a > 9223372036854775807 - b) = false := by simp; omega
      go_enter Try.func93, Try.ntmps93
      go_wp2
      go_ret2
      rw [raN_in HI.out, raB_in HI.out]
      exact ⟨rfl, rfl⟩
    · by_cases h2 : b < 0
      · have t1 : decide (a < -9223372036854775808 - b) = false := by simp; omega
        go_enter Try.func93, Try.ntmps93
        go_wp2
        go_ret2
        rw [raN_in HI.out, raB_in HI.out]
        exact ⟨rfl, rfl⟩
      · go_enter Try.func93, Try.ntmps93
        go_wp2
        go_ret2
        rw [raN_in HI.out, raB_in HI.out]
        exact ⟨rfl, rfl⟩
  · have HI := hidI hin
    unfold i64 at hin
    by_cases h1 : b > 0
    · have t1 : decide (a > 9223372036854775807 - b) = true := by simp; omega
      go_enter Try.func93, Try.ntmps93
      go_wp2
      go_ret2
      rw [raN_out HI.out, raB_out HI.out]
      exact ⟨rfl, rfl⟩
    · have h2 : b < 0 := by omega
      have t1 : decide (a < -9223372036854775808 - b) = true := by simp; omega
      go_enter Try.func93, Try.ntmps93
      go_wp2
      go_ret2
      rw [raN_out HI.out, raB_out HI.out]
      exact ⟨rfl, rfl⟩
set_option maxHeartbeats 2000000 in
theorem rsum_any (A : Option Addr) (xs : List Int) (c : Nat) (w : World) (hC : Kd.C d64 w A xs.length xs) (hl : xs.length ≤ 1000000000) (hx : ∀ x ∈ xs, i64 x) :
    Calls Try.prog 63 #[.slice A xs.length c] w fun e w' => e = .returned (.tuple #[.int .i64 (sumN xs), .bool (sumOk xs)]) ∧ w = w' := by
  by_cases h0 : xs = []
  · subst h0
    go_enter Try.func63, Try.ntmps63
    go_wp2
    refine wp_loop_rounds 1 ?_
    rw [rounds_succ]
    go_wp2
    go_ret2
    exact ⟨rfl, rfl⟩
  obtain ⟨b, off, rfl, hq⟩ := Kp.C_open hC (List.length_pos_iff.2 h0) (by decide)
  have HX := hidI hq
  have HO := hidI hx
  clear hC hq hx h0
  go_enter Try.func63, Try.ntmps63
  go_wp2
  go_loop [4, 5] (fun s i => ∃ k : Nat, k ≤ xs.length ∧ i = .int .i64 k ∧ ∃ s' : Int, s = .int .i64 s' ∧ Hid (sumL 0 (xs.take k) = some s')) (fun _ i => xs.length - (intOf i).toNat)
  case atStart => exact ⟨0, Nat.zero_le _, rfl, 0, rfl, hidI (by simp [sumL])⟩
  case round =>
    obtain ⟨k, hk, rfl, s', rfl, hs⟩ := hrel
    have hs1 : i64 s' := sumL_i64 _ 0 _ (by unfold i64; omega) hs.out
    by_cases hlt : k < xs.length
    · obtain ⟨n, hn⟩ : ∃ n, n = xs[k] := ⟨_, rfl⟩
      have q0 : w.cell? ⟨b, off + k, none⟩ = some (.int .i64 n) := by
        have := HX.out k hlt 0 _ rfl
        rw [Nat.mul_one, Nat.add_zero] at this
        rw [hn]; exact this
      have hn1 : i64 n := by rw [hn]; exact HO.out _ (List.getElem_mem _)
      have HS1 := hidI hs1
      have HN1 := hidI hn1
      clear hs1 hn1
      by_cases hin : i64 (s' + n)
      · have hst : Hid (sumL 0 (xs.take (k + 1)) = some (s' + n)) := by show _ = _; rw [List.take_succ_eq_append_getElem hlt, ← hn]; exact sumL_snoc _ _ _ _ hs.out hin
        have HI := hidI hin
        clear hn hin
        go_wp2_with (go_at_call 93; refine (radd_any _ _ _ HS1.out HN1.out).mono ?_; rintro e w' ⟨rfl, rfl⟩; rw [raN_in HI.out, raB_in HI.out])
        go_round
        case rel => exact ⟨k + 1, by omega, by go_num, _, rfl, hst⟩
        case measure => simp [intOf]; omega
      · have hov : Hid (sumL 0 xs = none) := sumL_over hlt hs.out (by rw [← hn]; exact hin)
        obtain ⟨r1, r2⟩ := sum_none hov.out
        have R1 := hidI r1
        have R2 := hidI r2
        have HI := hidI hin
        clear hn hin r1 r2
        go_wp2_with (go_at_call 93; refine (radd_any _ _ _ HS1.out HN1.out).mono ?_; rintro e w' ⟨rfl, rfl⟩; rw [raN_out HI.out, raB_out HI.out])
        go_ret2
        exact ⟨by rw [R1.out, R2.out]; rfl, rfl⟩
    · have e : k = xs.length := by omega
      have hs2 : sumL 0 xs = some s' := by have := hs.out; rw [e, List.take_length] at this; exact this
      obtain ⟨r1, r2⟩ := sum_some hs2
      have R1 := hidI r1
      have R2 := hidI r2
      clear e hs2 r1 r2 hs1
      go_wp2
      go_ret2
      exact ⟨by rw [R1.out, R2.out]; rfl, rfl⟩
end Go.Proofs.Ytliacfjdenfldaa
