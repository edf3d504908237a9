import Derived.Test.YtliacfjdenfldaaRv
/- The walk of moved. -/
namespace Go.Proofs.Ytliacfjdenfldaa
open Go.RowKit Go.Proofs.Kq
open Go.Proofs.YtliacfjdenfldaaW.PrintWords (pw_cell_below step_append_cells print_append_cells Kd Kd.C Kd.C_below)
open Go.Proofs.YtliacfjdenfldaaW.PrintLast
set_option linter.unusedSimpArgs false
set_option linter.unusedVariables false

def mvB (key : ByteArray) (x : A98) : Bool := (x.f0.toList == key.toList) && x.f4
def mvS (key : ByteArray) (xs : List A98) : Int := ((xs.filter (mvB key)).map A98.f3).sum
def mvN (key : ByteArray) (xs : List A98) : Int := (xs.filter (mvB key)).length
theorem mvS_snoc (key : ByteArray) (xs : List A98) (x : A98) : mvS key (xs ++ [x]) = mvS key xs + if mvB key x = true then x.f3 else 0 := by
  simp only [mvS, List.filter_append, List.map_append, List.sum_append]
  by_cases h : mvB key x = true <;> simp [List.filter_cons, h]
theorem mvN_snoc (key : ByteArray) (xs : List A98) (x : A98) : mvN key (xs ++ [x]) = mvN key xs + if mvB key x = true then 1 else 0 := by
  simp only [mvN, List.filter_append, List.length_append]
  by_cases h : mvB key x = true <;> simp [List.filter_cons, h]
theorem mvN_bd (key : ByteArray) (xs : List A98) : 0 ≤ mvN key xs ∧ mvN key xs ≤ xs.length := by
  have := List.length_filter_le (mvB key) xs
  simp only [mvN]; omega

def MvP (key : ByteArray) (recs : List A98) (w : World) (e : Ending) (w' : World) : Prop := ∃ s n, s = mvS key recs ∧ n = mvN key recs ∧ e = .returned (.tuple #[.int .i64 s, .int .i64 n]) ∧ Below w.heap.size w w'
set_option maxRecDepth 100000 in
set_option maxHeartbeats 4000000 in
theorem moved_any (wi : World) (base g : Nat) (vr0 vl0 : Value) (key : ByteArray) (recs : List A98) (late : List A102) (w : World) (hG : GR wi base g vr0 vl0 recs late w) (hl : recs.length ≤ 100000)
    (hbd : ∀ m, m ≤ recs.length → 0 ≤ mvS key (recs.take m) ∧ mvS key (recs.take m) ≤ 1000000000000) :
    Calls Try.prog 76 #[.pointer (some ⟨g, 0, none⟩), .string key] w (MvP key recs w) := by
  have HB := hidI hbd
  have HG := hidI hG
  clear hbd hG
  go_enter Try.func76, Try.ntmps76
  go_wp2_with fail
  refine (recs_gr wi base g vr0 vl0 recs late _ HG.out hl).mono ?_
  rintro e w1 ⟨A, c, rfl, hc, hC, hb1⟩
  simp only []
  go_wp2_with fail
  go_loopw [6, 7, 13] (fun s n i wr => ∃ m : Nat, m ≤ recs.length ∧ i = .int .i64 m ∧ s = .int .i64 (mvS key (recs.take m)) ∧ n = .int .i64 (mvN key (recs.take m)) ∧ Below w1.heap.size w1 wr) (fun _ _ i _ => recs.length - (intOf i).toNat)
  case atStart => exact ⟨0, Nat.zero_le _, rfl, rfl, rfl, Below.refl _ _⟩
  case round =>
    obtain ⟨m, hm, rfl, rfl, rfl, hb2⟩ := hrel
    by_cases hlt : m < recs.length
    · obtain ⟨b4, off4, rfl, hx4⟩ := Kp.C_open hC (by omega) (by decide)
      obtain ⟨y, hye⟩ : ∃ y, y = recs[m] := ⟨_, rfl⟩
      have q0 : wr.cell? ⟨b4, off4 + m * 5, none⟩ = some (.string y.f0) := by rw [hye]; exact pw_cell_below hb2 (hx4 m hlt 0 _ rfl)
      have q1 : wr.cell? ⟨b4, off4 + m * 5 + 1, none⟩ = some (.string y.f1) := by rw [hye]; exact pw_cell_below hb2 (hx4 m hlt 1 _ rfl)
      have q2 : wr.cell? ⟨b4, off4 + m * 5 + 2, none⟩ = some (.string y.f2) := by rw [hye]; exact pw_cell_below hb2 (hx4 m hlt 2 _ rfl)
      have q3 : wr.cell? ⟨b4, off4 + m * 5 + 3, none⟩ = some (.int .i64 y.f3) := by rw [hye]; exact pw_cell_below hb2 (hx4 m hlt 3 _ rfl)
      have q4 : wr.cell? ⟨b4, off4 + m * 5 + 4, none⟩ = some (.bool y.f4) := by rw [hye]; exact pw_cell_below hb2 (hx4 m hlt 4 _ rfl)
      have s1 : mvS key (recs.take (m + 1)) = mvS key (recs.take m) + if mvB key y = true then y.f3 else 0 := by rw [List.take_succ_eq_append_getElem hlt, mvS_snoc, ← hye]
      have n1 : mvN key (recs.take (m + 1)) = mvN key (recs.take m) + if mvB key y = true then 1 else 0 := by rw [List.take_succ_eq_append_getElem hlt, mvN_snoc, ← hye]
      have b1 := HB.out m hm
      have b2 := HB.out (m + 1) hlt
      have b3 := mvN_bd key (recs.take m)
      have b4' : (recs.take m).length ≤ 100000 := by rw [List.length_take]; omega
      clear hye hx4 hC
      generalize mvS key (recs.take m) = s0 at *
      generalize mvN key (recs.take m) = n0 at *
      have hb3 := below_new hb2 (.cells #[.string y.f0, .string y.f1, .string y.f2, .int .i64 y.f3, .bool y.f4] 98)
      cases h0 : (y.f0.toList == key.toList)
      · have e1 : mvB key y = false := by simp [mvB, h0]
        rw [e1] at s1 n1
        simp only [Bool.false_eq_true, if_false, Int.add_zero] at s1 n1
        have S1 := hidI s1
        have N1 := hidI n1
        clear s1 n1 e1
        go_wp2
        go_roundw
        case rel => exact ⟨m + 1, by omega, by go_num, by rw [S1.out], by rw [N1.out], hb3⟩
        case measure => simp [intOf]; omega
      · cases h4 : y.f4
        · have e1 : mvB key y = false := by simp [mvB, h4]
          rw [e1] at s1 n1
          simp only [Bool.false_eq_true, if_false, Int.add_zero] at s1 n1
          have S1 := hidI s1
          have N1 := hidI n1
          rw [h4] at q4 hb3
          clear s1 n1 e1 h4
          go_wp2
          go_roundw
          case rel => exact ⟨m + 1, by omega, by go_num, by rw [S1.out], by rw [N1.out], hb3⟩
          case measure => simp [intOf]; omega
        · have e1 : mvB key y = true := by simp [mvB, h4, h0]
          rw [e1] at s1 n1
          simp only [if_true] at s1 n1
          rw [s1] at b2
          have S1 := hidI s1
          have N1 := hidI n1
          rw [h4] at q4 hb3
          clear s1 n1 e1 h4
          go_wp2
          go_roundw
          case rel => exact ⟨m + 1, by omega, by go_num, by rw [S1.out], by rw [N1.out], hb3⟩
          case measure => simp [intOf]; omega
    · have e : m = recs.length := by omega
      subst e
      rw [List.take_length]
      obtain ⟨s, hs⟩ : ∃ s, s = mvS key recs := ⟨_, rfl⟩
      obtain ⟨n, hn⟩ : ∃ n, n = mvN key recs := ⟨_, rfl⟩
      rw [← hs, ← hn]
      have HS := hidI hs
      have HN := hidI hn
      clear hs hn
      go_wp2
      go_ret2
      exact ⟨s, n, HS.out, HN.out, rfl, below_step hb1 hb2⟩
end Go.Proofs.Ytliacfjdenfldaa
