import Derived.Test.YtliacfjdenfldaaAttC
import Derived.RegionTactic
import Derived.ChangeAlike
namespace Go.Proofs.Ytliacfjdenfldaa
open Go.RowKit

set_option maxHeartbeats 4000000 in
theorem rhear_any (k pa c : ByteArray) (am : Int) (s : ByteArray) (n t a : Int) (kd : ByteArray) (att now : Int) (w : World)
    (ht : -4611686018427387904 ≤ t ∧ t ≤ 4611686018427387904) (hnow : -4611686018427387904 ≤ now ∧ now ≤ 4611686018427387904) :
    Calls Try.prog 28 #[payV k pa c am s n t a, .string kd, .int .i64 att, .int .i64 now] w fun e w' => e = .returned (hearV k pa c am s n t a kd att now) ∧ Below w.heap.size w w' := by
  obtain ⟨ht1, ht2⟩ := ht; obtain ⟨hw1, hw2⟩ := hnow
  have b1 := bk_lo t
  have b2 := bk_hi t
  by_cases c0 : isOver s = true
  · have hb := hidI (show hearV k pa c am s n t a kd att now = _ from if_pos c0)
    go_enter Try.func28, Try.ntmps28
    go_wp2_with (go_at_call 30; refine (rover_any _ _ _ _ _ _ _ _ _).mono ?_; rintro e w' ⟨rfl, rfl⟩)
    rw [hb.out]
    refine bodyPost_ret (by simp [results, Try.results28, go_sem]; try rfl) rfl ?_
    exact ⟨rfl, by go_grown⟩
  have hb0 : hearV k pa c am s n t a kd att now = _ := if_neg c0
  have c0' : isOver s = false := by simpa using c0
  clear c0
  by_cases c1 : kd.toList = [97, 99, 99, 101, 112, 116, 101, 100]
  · rw [if_pos c1] at hb0
    have hb := hidI hb0
    clear hb0
    go_enter Try.func28, Try.ntmps28
    go_wp2_with (go_at_call 30; refine (rover_any _ _ _ _ _ _ _ _ _).mono ?_; rintro e w' ⟨rfl, rfl⟩)
    rw [hb.out]
    refine bodyPost_ret (by simp [results, Try.results28, go_sem]; try rfl) rfl ?_
    exact ⟨rfl, by go_grown⟩
  rw [if_neg c1] at hb0
  have c1b : (kd.toList == [97, 99, 99, 101, 112, 116, 101, 100]) = false := by simpa using c1
  clear c1
  by_cases c2 : kd.toList = [100, 101, 99, 108, 105, 110, 101, 100]
  · rw [if_pos c2] at hb0
    have hb := hidI hb0
    clear hb0
    go_enter Try.func28, Try.ntmps28
    go_wp2_with (go_at_call 30; refine (rover_any _ _ _ _ _ _ _ _ _).mono ?_; rintro e w' ⟨rfl, rfl⟩)
    rw [hb.out]
    refine bodyPost_ret (by simp [results, Try.results28, go_sem]; try rfl) rfl ?_
    exact ⟨rfl, by go_grown⟩
  rw [if_neg c2] at hb0
  have c2b : (kd.toList == [100, 101, 99, 108, 105, 110, 101, 100]) = false := by simpa using c2
  clear c2
  by_cases c3 : kd.toList = [117, 110, 107, 110, 111, 119, 110]
  · by_cases c4 : s.toList = [113, 117, 101, 114, 105, 101, 100]
    · by_cases c5 : att = a
      · rw [if_pos ⟨c3, c4, c5⟩] at hb0
        have hb := hidI hb0
        clear hb0
        subst c5
        go_enter Try.func28, Try.ntmps28
        go_wp2_with (first | (go_at_call 30; refine (rover_any _ _ _ _ _ _ _ _ _).mono ?_; rintro e w' ⟨rfl, rfl⟩) | (go_at_call 17; refine (rbackoff_any _ _ (by omega) (by omega)).mono ?_; rintro e w' ⟨rfl, rfl⟩))
        rw [hb.out]
        refine bodyPost_ret (by simp [results, Try.results28, go_sem]; try rfl) rfl ?_
        exact ⟨rfl, by go_grown⟩
      · rw [if_neg (fun h => c5 h.2.2)] at hb0
        have hb := hidI hb0
        have c5b : (att == a) = false := by simpa using c5
        clear hb0 c5
        go_enter Try.func28, Try.ntmps28
        go_wp2_with (first | (go_at_call 30; refine (rover_any _ _ _ _ _ _ _ _ _).mono ?_; rintro e w' ⟨rfl, rfl⟩) | (go_at_call 17; refine (rbackoff_any _ _ (by omega) (by omega)).mono ?_; rintro e w' ⟨rfl, rfl⟩))
        rw [hb.out]
        refine bodyPost_ret (by simp [results, Try.results28, go_sem]; try rfl) rfl ?_
        exact ⟨rfl, by go_grown⟩
    · rw [if_neg (fun h => c4 h.2.1)] at hb0
      have hb := hidI hb0
      have c4b : (s.toList == [113, 117, 101, 114, 105, 101, 100]) = false := by simpa using c4
      clear hb0 c4
      go_enter Try.func28, Try.ntmps28
      go_wp2_with (first | (go_at_call 30; refine (rover_any _ _ _ _ _ _ _ _ _).mono ?_; rintro e w' ⟨rfl, rfl⟩) | (go_at_call 17; refine (rbackoff_any _ _ (by omega) (by omega)).mono ?_; rintro e w' ⟨rfl, rfl⟩))
      rw [hb.out]
      refine bodyPost_ret (by simp [results, Try.results28, go_sem]; try rfl) rfl ?_
      exact ⟨rfl, by go_grown⟩
  · rw [if_neg (fun h => c3 h.1)] at hb0
    have hb := hidI hb0
    have c3b : (kd.toList == [117, 110, 107, 110, 111, 119, 110]) = false := by simpa using c3
    clear hb0 c3
    go_enter Try.func28, Try.ntmps28
    go_wp2_with (first | (go_at_call 30; refine (rover_any _ _ _ _ _ _ _ _ _).mono ?_; rintro e w' ⟨rfl, rfl⟩) | (go_at_call 17; refine (rbackoff_any _ _ (by omega) (by omega)).mono ?_; rintro e w' ⟨rfl, rfl⟩))
    rw [hb.out]
    refine bodyPost_ret (by simp [results, Try.results28, go_sem]; try rfl) rfl ?_
    exact ⟨rfl, by go_grown⟩

end Go.Proofs.Ytliacfjdenfldaa
