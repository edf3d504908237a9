/- The contracts of the layer dial, and its two statements. -/
import Derived.Test.YtliacfjdenfldaaK
namespace Go.Proofs.Ytliacfjdenfldaa
open Go.RowKit

/-- what Backoff answers. -/
def bk (t : Int) : Int := if t ≤ 0 then 1 else if t = 1 then 2 else if t = 2 then 4 else 8
theorem bk0 {t : Int} (h : t ≤ 0) : bk t = 1 := by unfold bk; rw [if_pos h]
theorem bk3 {t : Int} (h : 3 ≤ t) : bk t = 8 := by unfold bk; rw [if_neg (by omega), if_neg (by omega), if_neg (by omega)]


set_option maxHeartbeats 1000000 in
theorem backoff_any (t : Int) (w : World) (h1 : -9223372036854775808 ≤ t) (h2 : t ≤ 9223372036854775807) :
    Calls Try.prog 16 #[.int .i64 t] w fun e w' => e = .returned (.int .i64 (bk t)) ∧ w = w' := by
  by_cases c0 : t ≤ 0
  · have hb := hidI (bk0 c0)
    go_enter Try.func16, Try.ntmps16
    go_wp2
    go_step3
    go_wp2
    go_step3
    go_wp2
    refine wp_loop_rounds 1 ?_
    rw [rounds_succ]
    go_wp2
    try rw [Exit.noGoto_ret]
    go_ret
    exact ⟨ret_int hb.out.symm, rfl⟩
  by_cases c1 : t = 1
  · subst c1
    go_enter Try.func16, Try.ntmps16
    go_wp2
    go_step3
    go_wp2
    go_step3
    go_wp2
    refine wp_loop_rounds 2 ?_
    rw [rounds_succ]
    go_wp2
    rw [rounds_succ]
    go_wp2
    try rw [Exit.noGoto_ret]
    go_ret
    exact ⟨rfl, rfl⟩
  by_cases c2 : t = 2
  · subst c2
    go_enter Try.func16, Try.ntmps16
    go_wp2
    go_step3
    go_wp2
    go_step3
    go_wp2
    refine wp_loop_rounds 3 ?_
    rw [rounds_succ]
    go_wp2
    rw [rounds_succ]
    go_wp2
    rw [rounds_succ]
    go_wp2
    try rw [Exit.noGoto_ret]
    go_ret
    exact ⟨rfl, rfl⟩
  · have c3 : 3 ≤ t := by omega
    have hb := hidI (bk3 c3)
    clear c0 c1 c2
    go_enter Try.func16, Try.ntmps16
    go_wp2
    go_step3
    go_wp2
    go_step3
    go_wp2
    refine wp_loop_rounds 4 ?_
    rw [rounds_succ]
    go_wp2
    rw [rounds_succ]
    go_wp2
    rw [rounds_succ]
    go_wp2
    rw [rounds_succ]
    go_wp2
    all_goals
      try rw [Exit.noGoto_ret]
      go_ret
      exact ⟨ret_int hb.out.symm, rfl⟩

def per (t : Int) : Int := if t < 0 then 0 else t / 8

set_option maxHeartbeats 1000000 in
theorem period_any (t : Int) (w : World) (h1 : -9223372036854775808 ≤ t) (h2 : t ≤ 9223372036854775807) :
    Calls Try.prog 18 #[.int .i64 t] w fun e w' => e = .returned (.int .i64 (per t)) ∧ w = w' := by
  by_cases c0 : t < 0
  · have hb : Hid (per t = 0) := by unfold per; exact if_pos c0
    go_enter Try.func18, Try.ntmps18
    go_wp2
    go_ret
    exact ⟨ret_int (by rw [hb.out]), rfl⟩
  · have hb : Hid (per t = t / 8) := by unfold per; exact if_neg c0
    have c1 : 0 ≤ t := by omega
    clear c0
    go_enter Try.func18, Try.ntmps18
    go_wp2
    go_ret
    exact ⟨ret_int (by rw [hb.out]), rfl⟩

set_option maxHeartbeats 1000000 in
theorem rperiod_any (t : Int) (w : World) (h1 : -9223372036854775808 ≤ t) (h2 : t ≤ 9223372036854775807) :
    Calls Try.prog 19 #[.int .i64 t] w fun e w' => e = .returned (.int .i64 (per t)) ∧ w = w' := by
  by_cases c0 : t < 0
  · have hb : Hid (per t = 0) := by unfold per; exact if_pos c0
    go_enter Try.func19, Try.ntmps19
    go_wp2
    go_ret
    exact ⟨ret_int (by rw [hb.out]), rfl⟩
  · have hb : Hid (per t = t / 8) := by unfold per; exact if_neg c0
    have c1 : 0 ≤ t := by omega
    clear c0
    go_enter Try.func19, Try.ntmps19
    go_wp2
    go_ret
    exact ⟨ret_int (by rw [hb.out]), rfl⟩

def isCut (t : Int) : Bool := decide (0 < t) && (t % 8 == 0)
theorem isCut_pos {t : Int} (h : 0 < t) : isCut t = (t % 8 == 0) := by simp [isCut, h]
theorem isCut_neg {t : Int} (h : ¬ 0 < t) : isCut t = false := by simp only [isCut, decide_eq_false h, Bool.false_and]
set_option maxHeartbeats 1000000 in
theorem iscut_any (t : Int) (w : World) (h1 : -9223372036854775808 ≤ t) (h2 : t ≤ 9223372036854775807) :
    Calls Try.prog 20 #[.int .i64 t] w fun e w' => e = .returned (.bool (isCut t)) ∧ w = w' := by
  by_cases c0 : 0 < t
  · have hb := hidI (isCut_pos c0)
    go_enter Try.func20, Try.ntmps20
    go_wp2
    go_ret
    exact ⟨ret_bool hb.out.symm, rfl⟩
  · have hb := hidI (isCut_neg c0)
    go_enter Try.func20, Try.ntmps20
    go_wp2
    go_ret
    exact ⟨ret_bool hb.out.symm, rfl⟩
set_option maxHeartbeats 1000000 in
theorem riscut_any (t : Int) (w : World) (h1 : -9223372036854775808 ≤ t) (h2 : t ≤ 9223372036854775807) :
    Calls Try.prog 21 #[.int .i64 t] w fun e w' => e = .returned (.bool (isCut t)) ∧ w = w' := by
  by_cases c0 : 0 < t
  · have hb := hidI (isCut_pos c0)
    go_enter Try.func21, Try.ntmps21
    go_wp2
    go_ret
    exact ⟨ret_bool hb.out.symm, rfl⟩
  · have hb := hidI (isCut_neg c0)
    go_enter Try.func21, Try.ntmps21
    go_wp2
    go_ret
    exact ⟨ret_bool hb.out.symm, rfl⟩

set_option maxHeartbeats 1000000 in
theorem rbackoff_any (t : Int) (w : World) (h1 : -9223372036854775808 ≤ t) (h2 : t ≤ 9223372036854775807) :
    Calls Try.prog 17 #[.int .i64 t] w fun e w' => e = .returned (.int .i64 (bk t)) ∧ w = w' := by
  by_cases c0 : t ≤ 0
  · have hb := hidI (bk0 c0)
    go_enter Try.func17, Try.ntmps17
    go_wp2
    refine wp_loop_rounds 1 ?_
    rw [rounds_succ]
    go_wp2
    all_goals
      go_ret
      exact ⟨ret_int hb.out.symm, rfl⟩
  by_cases c1 : t = 1
  · subst c1
    go_enter Try.func17, Try.ntmps17
    go_wp2
    refine wp_loop_rounds 2 ?_
    iterate 2
      rw [rounds_succ]
      go_wp2
    go_ret
    exact ⟨rfl, rfl⟩
  by_cases c2 : t = 2
  · subst c2
    go_enter Try.func17, Try.ntmps17
    go_wp2
    refine wp_loop_rounds 3 ?_
    iterate 3
      rw [rounds_succ]
      go_wp2
    go_ret
    exact ⟨rfl, rfl⟩
  · have c3 : 3 ≤ t := by omega
    have hb := hidI (bk3 c3)
    clear c0 c1 c2
    go_enter Try.func17, Try.ntmps17
    go_wp2
    refine wp_loop_rounds 4 ?_
    iterate 4
      rw [rounds_succ]
      go_wp2
    all_goals
      go_ret
      exact ⟨ret_int hb.out.symm, rfl⟩

def nxt (t : Int) : Int × Int := if t ≥ 9223372036854775800 then (0, 2) else ((per t + 1) * 8, 0)
set_option maxHeartbeats 1000000 in
theorem next_any (t : Int) (w : World) (h1 : -9223372036854775808 ≤ t) (h2 : t ≤ 9223372036854775807) :
    Calls Try.prog 22 #[.int .i64 t] w fun e w' => e = .returned (.tuple #[.int .i64 (nxt t).1, .int .i64 (nxt t).2]) ∧ w = w' := by
  have p0 : 0 ≤ per t := by unfold per; split <;> omega
  have p1 : per t ≤ 1152921504606846975 := by unfold per; split <;> omega
  by_cases c0 : t ≥ 9223372036854775800
  · have hb : Hid (nxt t = (0, 2)) := by unfold nxt; exact if_pos c0
    have p2 : 1152921504606846975 ≤ per t := by unfold per; rw [if_neg (by omega)]; omega
    go_enter Try.func22, Try.ntmps22
    go_wp2_with (go_at_call 18; refine (period_any _ _ (by omega) (by omega)).mono ?_; rintro e w' ⟨rfl, rfl⟩)
    go_ret2
    rw [hb.out]
    exact ⟨rfl, rfl⟩
  · have hb : Hid (nxt t = ((per t + 1) * 8, 0)) := by unfold nxt; exact if_neg c0
    have p2 : per t < 1152921504606846975 := by unfold per; split <;> omega
    go_enter Try.func22, Try.ntmps22
    go_wp2_with (go_at_call 18; refine (period_any _ _ (by omega) (by omega)).mono ?_; rintro e w' ⟨rfl, rfl⟩)
    go_ret2
    rw [hb.out]
    exact ⟨rfl, rfl⟩

set_option maxHeartbeats 1000000 in
theorem lives15_any (w : World) :
    Calls Try.prog 15 #[] w fun e w' => e = .returned (.bool true) ∧ w = w' := by
  go_enter Try.func15, Try.ntmps15
  go_wp2_with (first | (go_at_call 22; refine (next_any _ _ (by omega) (by omega)).mono ?_; rintro e w' ⟨rfl, rfl⟩; simp only [show nxt 8 = (16, 0) from rfl]) | (go_at_call 16; refine (backoff_any _ _ (by omega) (by omega)).mono ?_; rintro e w' ⟨rfl, rfl⟩; simp only [show bk 2 = 4 from rfl]))
  go_ret
  exact ⟨rfl, rfl⟩

theorem bk_mono (t : Int) : bk (t - 1) ≤ bk t := by unfold bk; repeat' split <;> omega
theorem bk_lo (t : Int) : 1 ≤ bk t := by unfold bk; repeat' split <;> omega
theorem bk_hi (t : Int) : bk t ≤ 8 := by unfold bk; repeat' split <;> omega
set_option maxHeartbeats 1000000 in
theorem law3 (t : Int) (w : World) (h1 : -9223372036854775808 ≤ t) (h2 : t ≤ 9223372036854775807) :
    Calls Try.prog 3 #[.int .i64 t] w fun e w' => e = .returned (.bool true) ∧ w = w' := by
  have b1 := bk_lo t
  have b2 := bk_hi t
  have b3 := bk_mono t
  by_cases c : t = -9223372036854775808
  · subst c
    go_enter Try.func3, Try.ntmps3
    go_wp2_with (first | (go_at_call 15; refine (lives15_any _).mono ?_; rintro e w' ⟨rfl, rfl⟩) | (go_at_call 16; refine (backoff_any _ _ (by omega) (by omega)).mono ?_; rintro e w' ⟨rfl, rfl⟩) | (go_at_call 17; refine (rbackoff_any _ _ (by omega) (by omega)).mono ?_; rintro e w' ⟨rfl, rfl⟩))
    go_ret
    exact ⟨rfl, rfl⟩
  · have hc : (t == -9223372036854775808) = false := by simpa using c
    go_enter Try.func3, Try.ntmps3
    go_wp2_with (first | (go_at_call 15; refine (lives15_any _).mono ?_; rintro e w' ⟨rfl, rfl⟩) | (go_at_call 16; refine (backoff_any _ _ (by omega) (by omega)).mono ?_; rintro e w' ⟨rfl, rfl⟩) | (go_at_call 17; refine (rbackoff_any _ _ (by omega) (by omega)).mono ?_; rintro e w' ⟨rfl, rfl⟩))
    go_ret
    exact ⟨rfl, rfl⟩


theorem per_eq (t : Int) (h : ¬ t < 0) : per t = t / 8 := by unfold per; exact if_neg h
set_option maxHeartbeats 2000000 in
theorem law4 (t : Int) (w : World) (h1 : -9223372036854775808 ≤ t) (h2 : t ≤ 9223372036854775807) :
    Calls Try.prog 4 #[.int .i64 t] w fun e w' => e = .returned (.bool true) ∧ w = w' := by
  by_cases c : t ≥ 9223372036854775800
  · have hb : Hid (nxt t = (0, 2)) := by unfold nxt; exact if_pos c
    go_enter Try.func4, Try.ntmps4
    go_wp2_with (first | (go_at_call 15; refine (lives15_any _).mono ?_; rintro e w' ⟨rfl, rfl⟩) | (go_at_call 18; refine (period_any _ _ (by omega) (by omega)).mono ?_; rintro e w' ⟨rfl, rfl⟩) | (go_at_call 19; refine (rperiod_any _ _ (by omega) (by omega)).mono ?_; rintro e w' ⟨rfl, rfl⟩) | (go_at_call 20; refine (iscut_any _ _ (by omega) (by omega)).mono ?_; rintro e w' ⟨rfl, rfl⟩) | (go_at_call 21; refine (riscut_any _ _ (by omega) (by omega)).mono ?_; rintro e w' ⟨rfl, rfl⟩) | (go_at_call 22; refine (next_any _ _ (by omega) (by omega)).mono ?_; rintro e w' ⟨rfl, rfl⟩; rw [hb.out]))
    go_ret
    exact ⟨rfl, rfl⟩
  · obtain ⟨n, hn⟩ : ∃ n : Int, n = (per t + 1) * 8 := ⟨_, rfl⟩
    have hb : Hid (nxt t = (n, 0)) := by unfold nxt; rw [if_neg c, hn]; rfl
    have p0 : 0 ≤ per t := by unfold per; split <;> omega
    have p1 : per t ≤ 1152921504606846975 := by unfold per; split <;> omega
    have n1 : n > t := by by_cases h : t < 0 <;> simp only [per, h, if_true, if_false] at hn <;> omega
    have n2 : n ≤ 9223372036854775807 := by unfold per at hn; split at hn <;> omega
    have n3 : isCut n = true := by unfold isCut; simp; omega
    have n4 : per n = per t + 1 := by rw [per_eq n (by omega)]; omega
    have n5 : 0 < n := by omega
    have n6 : (decide (n - 8 ≤ t) = true) ∨ (decide (n - 8 ≤ t) = false ∧ n = 8) := by
      by_cases h : n - 8 ≤ t
      · exact Or.inl (by simpa using h)
      · refine Or.inr ⟨by simpa using h, ?_⟩
        unfold per at hn; split at hn <;> omega
    have N4 := hidI n4
    have N3 := hidI n3
    clear n3 n4 hn
    rcases n6 with n6 | ⟨n6, n7⟩
    · go_enter Try.func4, Try.ntmps4
      go_wp2_with (first | (go_at_call 15; refine (lives15_any _).mono ?_; rintro e w' ⟨rfl, rfl⟩) | (go_at_call 18; refine (period_any _ _ (by omega) (by omega)).mono ?_; rintro e w' ⟨rfl, rfl⟩; try rw [N4.out]) | (go_at_call 19; refine (rperiod_any _ _ (by omega) (by omega)).mono ?_; rintro e w' ⟨rfl, rfl⟩) | (go_at_call 20; refine (iscut_any _ _ (by omega) (by omega)).mono ?_; rintro e w' ⟨rfl, rfl⟩) | (go_at_call 21; refine (riscut_any _ _ (by omega) (by omega)).mono ?_; rintro e w' ⟨rfl, rfl⟩; try rw [N3.out]) | (go_at_call 22; refine (next_any _ _ (by omega) (by omega)).mono ?_; rintro e w' ⟨rfl, rfl⟩; rw [hb.out]))
      go_ret
      exact ⟨rfl, rfl⟩
    · have N7 := hidI n7
      have n8 : (n == 8) = true := by simpa using n7
      clear n7
      go_enter Try.func4, Try.ntmps4
      go_wp2_with (first | (go_at_call 15; refine (lives15_any _).mono ?_; rintro e w' ⟨rfl, rfl⟩) | (go_at_call 18; refine (period_any _ _ (by omega) (by omega)).mono ?_; rintro e w' ⟨rfl, rfl⟩; try rw [N4.out]) | (go_at_call 19; refine (rperiod_any _ _ (by omega) (by omega)).mono ?_; rintro e w' ⟨rfl, rfl⟩) | (go_at_call 20; refine (iscut_any _ _ (by omega) (by omega)).mono ?_; rintro e w' ⟨rfl, rfl⟩) | (go_at_call 21; refine (riscut_any _ _ (by omega) (by omega)).mono ?_; rintro e w' ⟨rfl, rfl⟩; try rw [N3.out]) | (go_at_call 22; refine (next_any _ _ (by omega) (by omega)).mono ?_; rintro e w' ⟨rfl, rfl⟩; rw [hb.out]))
      go_ret
      exact ⟨rfl, rfl⟩


theorem walk3 (t : Int) (w : World) (h1 : -9223372036854775808 ≤ t) (h2 : t ≤ 9223372036854775807) :
    Calls Try.prog 3 #[.int .i64 t] w fun e w' => e = .returned (.bool true) ∧ Below w.heap.size w w' :=
  (law3 t w h1 h2).mono fun _ _ ⟨he, hw⟩ => ⟨he, hw ▸ Below.refl _ _⟩
theorem walk4 (t : Int) (w : World) (h1 : -9223372036854775808 ≤ t) (h2 : t ≤ 9223372036854775807) :
    Calls Try.prog 4 #[.int .i64 t] w fun e w' => e = .returned (.bool true) ∧ Below w.heap.size w w' :=
  (law4 t w h1 h2).mono fun _ _ ⟨he, hw⟩ => ⟨he, hw ▸ Below.refl _ _⟩

end Go.Proofs.Ytliacfjdenfldaa
