import Derived.Test.YtliacfjdenfldaaDial
import Derived.RegionTactic
import Derived.ChangeAlike
namespace Go.Proofs.Ytliacfjdenfldaa
open Go.RowKit

abbrev sReady : List UInt8 := [114, 101, 97, 100, 121]
abbrev sAsked : List UInt8 := [97, 115, 107, 101, 100]
abbrev sQueried : List UInt8 := [113, 117, 101, 114, 105, 101, 100]
abbrev sPaid : List UInt8 := [112, 97, 105, 100]
abbrev sBack : List UInt8 := [98, 97, 99, 107]
abbrev sPay : List UInt8 := [112, 97, 121]
abbrev sQuery : List UInt8 := [113, 117, 101, 114, 121]

abbrev payV (k pa c : ByteArray) (am : Int) (s : ByteArray) (n t a : Int) : Value := .agg #[.string k, .string pa, .string c, .int .i64 am, .string s, .int .i64 n, .int .i64 t, .int .i64 a]
abbrev reqV (kd k pa c : ByteArray) (am a : Int) : Value := .agg #[.string kd, .string k, .string pa, .string c, .int .i64 am, .int .i64 a]

def isOver (s : ByteArray) : Bool := s.toList == [112, 97, 105, 100] || s.toList == [98, 97, 99, 107]
theorem isOver_paid {s : ByteArray} (h : s.toList = [112, 97, 105, 100]) : isOver s = true := by simp [isOver, h]

set_option maxHeartbeats 1000000 in
theorem over_any (k pa c : ByteArray) (am : Int) (s : ByteArray) (n t a : Int) (w : World) :
    Calls Try.prog 29 #[payV k pa c am s n t a] w fun e w' => e = .returned (.bool (isOver s)) ∧ w' = w.alloc (.cells #[.string k, .string pa, .string c, .int .i64 am, .string s, .int .i64 n, .int .i64 t, .int .i64 a] 29) := by
  go_enter Try.func29, Try.ntmps29
  go_wp2
  all_goals
    go_ret
    refine ⟨ret_bool ?_, rfl⟩
    first | rfl | (exact (isOver_paid ‹_›).symm)

set_option maxHeartbeats 1000000 in
theorem rover_any (k pa c : ByteArray) (am : Int) (s : ByteArray) (n t a : Int) (w : World) :
    Calls Try.prog 30 #[payV k pa c am s n t a] w fun e w' => e = .returned (.bool (isOver s)) ∧ w' = w.alloc (.cells #[.string k, .string pa, .string c, .int .i64 am, .string s, .int .i64 n, .int .i64 t, .int .i64 a] 32) := by
  go_enter Try.func30, Try.ntmps30
  go_wp2
  all_goals
    go_ret
    refine ⟨ret_bool ?_, rfl⟩
    first | rfl | (exact (isOver_paid ‹_›).symm)


def bs (l : List UInt8) : ByteArray := ⟨l.toArray⟩
def stepV (k pa c : ByteArray) (am : Int) (s : ByteArray) (n t a now : Int) : Value :=
  if isOver s = true ∨ now < n then .tuple #[payV k pa c am s n t a, reqV ⟨#[]⟩ ⟨#[]⟩ ⟨#[]⟩ ⟨#[]⟩ 0 0, .bool false]
  else if s.toList = sReady then .tuple #[payV k pa c am ⟨#[97, 115, 107, 101, 100]⟩ (now + 2) t (a + 1), reqV ⟨#[112, 97, 121]⟩ k pa c am (a + 1), .bool true]
  else if s.toList = sAsked then .tuple #[payV k pa c am ⟨#[113, 117, 101, 114, 105, 101, 100]⟩ (now + 2) t (a + 1), reqV ⟨#[113, 117, 101, 114, 121]⟩ k pa c am (a + 1), .bool true]
  else .tuple #[payV k pa c am s (now + (2 + bk t)) (t + 1) (a + 1), reqV ⟨#[113, 117, 101, 114, 121]⟩ k pa c am (a + 1), .bool true]

set_option maxHeartbeats 2000000 in
theorem step_any (k pa c : ByteArray) (am : Int) (s : ByteArray) (n t a now : Int) (w : World)
    (hn : -4611686018427387904 ≤ n ∧ n ≤ 4611686018427387904) (ht : -4611686018427387904 ≤ t ∧ t ≤ 4611686018427387904) (ha : -4611686018427387904 ≤ a ∧ a ≤ 4611686018427387904) (hnow : -4611686018427387904 ≤ now ∧ now ≤ 4611686018427387904) :
    Calls Try.prog 25 #[payV k pa c am s n t a, .int .i64 now] w fun e w' => e = .returned (stepV k pa c am s n t a now) ∧ Below w.heap.size w w' := by
  obtain ⟨hn1, hn2⟩ := hn; obtain ⟨ht1, ht2⟩ := ht; obtain ⟨ha1, ha2⟩ := ha; obtain ⟨hw1, hw2⟩ := hnow
  have b1 := bk_lo t
  have b2 := bk_hi t
  by_cases c0 : isOver s = true
  · have hb := hidI (show stepV k pa c am s n t a now = _ from if_pos (Or.inl c0))
    go_enter Try.func25, Try.ntmps25
    go_wp2_with (go_at_call 29; refine (over_any _ _ _ _ _ _ _ _ _).mono ?_; rintro e w' ⟨rfl, rfl⟩)
    rw [hb.out]
    refine bodyPost_ret (by simp [results, Try.results25, go_sem]; try rfl) rfl ?_
    exact ⟨rfl, by go_grown⟩
  have c0' : isOver s = false := by simpa using c0
  clear c0
  by_cases c1 : now < n
  · have hb := hidI (show stepV k pa c am s n t a now = _ from if_pos (Or.inr c1))
    go_enter Try.func25, Try.ntmps25
    go_wp2_with (go_at_call 29; refine (over_any _ _ _ _ _ _ _ _ _).mono ?_; rintro e w' ⟨rfl, rfl⟩)
    rw [hb.out]
    refine bodyPost_ret (by simp [results, Try.results25, go_sem]; try rfl) rfl ?_
    exact ⟨rfl, by go_grown⟩
  have hb0 : stepV k pa c am s n t a now = _ := if_neg (by simp [c0', c1])
  by_cases c2 : s.toList = sReady
  · rw [if_pos c2] at hb0
    have hb := hidI hb0
    clear hb0
    go_enter Try.func25, Try.ntmps25
    go_wp2_with (go_at_call 29; refine (over_any _ _ _ _ _ _ _ _ _).mono ?_; rintro e w' ⟨rfl, rfl⟩)
    go_region
    all_goals
      go_wp2
      rw [hb.out]
      refine bodyPost_ret (by simp [results, Try.results25, go_sem]; try rfl) rfl ?_
      exact ⟨rfl, by go_grown⟩
  rw [if_neg c2] at hb0
  by_cases c3 : s.toList = sAsked
  · rw [if_pos c3] at hb0
    have hb := hidI hb0
    clear hb0
    go_enter Try.func25, Try.ntmps25
    go_wp2_with (go_at_call 29; refine (over_any _ _ _ _ _ _ _ _ _).mono ?_; rintro e w' ⟨rfl, rfl⟩)
    go_region
    all_goals
      go_wp2
      rw [hb.out]
      refine bodyPost_ret (by simp [results, Try.results25, go_sem]; try rfl) rfl ?_
      exact ⟨rfl, by go_grown⟩
  · rw [if_neg c3] at hb0
    have hb := hidI hb0
    clear hb0
    have c2b : (s.toList == [114, 101, 97, 100, 121]) = false := by simpa using c2
    have c3b : (s.toList == [97, 115, 107, 101, 100]) = false := by simpa using c3
    clear c2 c3
    go_enter Try.func25, Try.ntmps25
    go_wp2_with (first | (go_at_call 29; refine (over_any _ _ _ _ _ _ _ _ _).mono ?_; rintro e w' ⟨rfl, rfl⟩) | (go_at_call 16; refine (backoff_any _ _ (by omega) (by omega)).mono ?_; rintro e w' ⟨rfl, rfl⟩))
    go_region
    all_goals
      go_wp2
      rw [hb.out]
      refine bodyPost_ret (by simp [results, Try.results25, go_sem]; try rfl) rfl ?_
      exact ⟨rfl, by go_grown⟩
end Go.Proofs.Ytliacfjdenfldaa
