import Derived.Test.YtliacfjdenfldaaAtt
import Derived.RegionTactic
import Derived.ChangeAlike
namespace Go.Proofs.Ytliacfjdenfldaa
open Go.RowKit

set_option maxHeartbeats 2000000 in
theorem rstep_any (k pa c : ByteArray) (am : Int) (s : ByteArray) (n t a now : Int) (w : World)
    (hn : -4611686018427387904 ≤ n ∧ n ≤ 4611686018427387904) (ht : -4611686018427387904 ≤ t ∧ t ≤ 4611686018427387904) (ha : -4611686018427387904 ≤ a ∧ a ≤ 4611686018427387904) (hnow : -4611686018427387904 ≤ now ∧ now ≤ 4611686018427387904) :
    Calls Try.prog 26 #[payV k pa c am s n t a, .int .i64 now] w fun e w' => e = .returned (stepV k pa c am s n t a now) ∧ Below w.heap.size w w' := by
  obtain ⟨hn1, hn2⟩ := hn; obtain ⟨ht1, ht2⟩ := ht; obtain ⟨ha1, ha2⟩ := ha; obtain ⟨hw1, hw2⟩ := hnow
  have b1 := bk_lo t
  have b2 := bk_hi t
  by_cases c0 : isOver s = true
  · have hb := hidI (show stepV k pa c am s n t a now = _ from if_pos (Or.inl c0))
    go_enter Try.func26, Try.ntmps26
    go_wp2_with (go_at_call 30; refine (rover_any _ _ _ _ _ _ _ _ _).mono ?_; rintro e w' ⟨rfl, rfl⟩)
    rw [hb.out]
    refine bodyPost_ret (by simp [results, Try.results26, go_sem]; try rfl) rfl ?_
    exact ⟨rfl, by go_grown⟩
  have c0' : isOver s = false := by simpa using c0
  clear c0
  by_cases c1 : now < n
  · have hb := hidI (show stepV k pa c am s n t a now = _ from if_pos (Or.inr c1))
    go_enter Try.func26, Try.ntmps26
    go_wp2_with (go_at_call 30; refine (rover_any _ _ _ _ _ _ _ _ _).mono ?_; rintro e w' ⟨rfl, rfl⟩)
    rw [hb.out]
    refine bodyPost_ret (by simp [results, Try.results26, go_sem]; try rfl) rfl ?_
    exact ⟨rfl, by go_grown⟩
  have hb0 : stepV k pa c am s n t a now = _ := if_neg (by simp [c0', c1])
  by_cases c2 : s.toList = sReady
  · rw [if_pos c2] at hb0
    have hb := hidI hb0
    clear hb0
    go_enter Try.func26, Try.ntmps26
    go_wp2_with (go_at_call 30; refine (rover_any _ _ _ _ _ _ _ _ _).mono ?_; rintro e w' ⟨rfl, rfl⟩)
    go_region
    all_goals
      go_wp2
      rw [hb.out]
      refine bodyPost_ret (by simp [results, Try.results26, go_sem]; try rfl) rfl ?_
      exact ⟨rfl, by go_grown⟩
  rw [if_neg c2] at hb0
  by_cases c3 : s.toList = sAsked
  · rw [if_pos c3] at hb0
    have hb := hidI hb0
    clear hb0
    go_enter Try.func26, Try.ntmps26
    go_wp2_with (go_at_call 30; refine (rover_any _ _ _ _ _ _ _ _ _).mono ?_; rintro e w' ⟨rfl, rfl⟩)
    go_region
    all_goals
      go_wp2
      rw [hb.out]
      refine bodyPost_ret (by simp [results, Try.results26, go_sem]; try rfl) rfl ?_
      exact ⟨rfl, by go_grown⟩
  · rw [if_neg c3] at hb0
    have hb := hidI hb0
    clear hb0
    have c2b : (s.toList == [114, 101, 97, 100, 121]) = false := by simpa using c2
    have c3b : (s.toList == [97, 115, 107, 101, 100]) = false := by simpa using c3
    clear c2 c3
    go_enter Try.func26, Try.ntmps26
    go_wp2_with (first | (go_at_call 30; refine (rover_any _ _ _ _ _ _ _ _ _).mono ?_; rintro e w' ⟨rfl, rfl⟩) | (go_at_call 17; refine (rbackoff_any _ _ (by omega) (by omega)).mono ?_; rintro e w' ⟨rfl, rfl⟩))
    go_region
    all_goals
      go_wp2
      rw [hb.out, show now + (2 + bk t) = now + 2 + bk t from by omega]
      refine bodyPost_ret (by simp [results, Try.results26, go_sem]; try rfl) rfl ?_
      exact ⟨rfl, by go_grown⟩

end Go.Proofs.Ytliacfjdenfldaa
