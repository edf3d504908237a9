import Derived.Test.YtliacfjdenfldaaGh
namespace Go.Proofs.Ytliacfjdenfldaa
open Go.RowKit Go.Proofs.Kq
open Go.Proofs.YtliacfjdenfldaaW.PrintWords (pw_cell_below step_append_cells print_append_cells Kd Kd.C Kd.C_below)
open Go.Proofs.YtliacfjdenfldaaW.PrintLast
set_option linter.unusedSimpArgs false
set_option linter.unusedVariables false

set_option maxHeartbeats 1000000 in
theorem onec_any (x : A98) (kb : Nat) (key : ByteArray) (w : World) (hk : w.cell? ⟨kb, 0, none⟩ = some (.string key)) :
    Calls Try.prog 52 #[.agg #[.string x.f0, .string x.f1, .string x.f2, .int .i64 x.f3, .bool x.f4], .pointer (some ⟨kb, 0, none⟩)] w fun e w' => e = .returned (.bool (x.f0.toList == key.toList)) ∧
      w' = w.alloc (.cells #[.string x.f0, .string x.f1, .string x.f2, .int .i64 x.f3, .bool x.f4] 98) := by
  have hlt := World.block_lt_of_cell? w _ hk
  simp only at hlt
  go_enter Try.func52, Try.ntmps52
  go_wp2
  go_ret
  exact ⟨rfl, rfl⟩

set_option maxHeartbeats 2000000 in
theorem indexo_any (A : Option Addr) (xs : List A98) (c : Nat) (kb : Nat) (key : ByteArray) (w : World) (hC : Kd.C d98 w A xs.length xs) (hl : xs.length ≤ 1000000) (hk : w.cell? ⟨kb, 0, none⟩ = some (.string key)) :
    Calls Try.prog 90 #[.slice A xs.length c, .func (.func 52) #[] #[.pointer (some ⟨kb, 0, none⟩)]] w fun e w' => e = .returned (.int .i64 (fidx key 0 xs)) ∧ Below w.heap.size w w' := by
  by_cases h0 : xs = []
  · subst h0
    go_enter Try.func90, Try.ntmps90
    go_wp2
    refine wp_loop_rounds 1 ?_
    rw [rounds_succ]
    go_wp2
    go_ret
    exact ⟨ret_int rfl, Below.refl _ _⟩
  obtain ⟨b, off, rfl, hx⟩ := Kp.C_open hC (List.length_pos_iff.2 h0) (by decide)
  have HX := hidI hx
  have HK := hidI hk
  clear hx h0 hC hk
  go_enter Try.func90, Try.ntmps90
  go_wp2
  go_loopw [8] (fun i wr => ∃ k : Nat, k ≤ xs.length ∧ i = .int .i64 k ∧ Hid (∀ j (h : j < xs.length), j < k → ¬ xs[j].f0.toList = key.toList) ∧ Below w.heap.size w wr) (fun i _ => xs.length - (intOf i).toNat)
  case atStart => exact ⟨0, Nat.zero_le _, rfl, hidI (fun j _ h => absurd h (by omega)), Below.refl _ _⟩
  case round =>
    obtain ⟨k, hk, rfl, hall, hb⟩ := hrel
    by_cases hlt : k < xs.length
    · obtain ⟨x, hxe⟩ : ∃ x, x = xs[k] := ⟨_, rfl⟩
      have q0 : wr.cell? ⟨b, off + k * 5, none⟩ = some (.string x.f0) := by rw [hxe]; exact pw_cell_below hb (HX.out k hlt 0 _ rfl)
      have q1 : wr.cell? ⟨b, off + k * 5 + 1, none⟩ = some (.string x.f1) := by rw [hxe]; exact pw_cell_below hb (HX.out k hlt 1 _ rfl)
      have q2 : wr.cell? ⟨b, off + k * 5 + 2, none⟩ = some (.string x.f2) := by rw [hxe]; exact pw_cell_below hb (HX.out k hlt 2 _ rfl)
      have q3 : wr.cell? ⟨b, off + k * 5 + 3, none⟩ = some (.int .i64 x.f3) := by rw [hxe]; exact pw_cell_below hb (HX.out k hlt 3 _ rfl)
      have q4 : wr.cell? ⟨b, off + k * 5 + 4, none⟩ = some (.bool x.f4) := by rw [hxe]; exact pw_cell_below hb (HX.out k hlt 4 _ rfl)
      have qk : wr.cell? ⟨kb, 0, none⟩ = some (.string key) := pw_cell_below hb HK.out
      have HE := hidI hxe
      clear hxe
      by_cases hm : x.f0.toList = key.toList
      · have hr : Hid (fidx key 0 xs = k) := by
          show fidx key 0 xs = k
          rw [fidx_skip key xs 0 k hall.out, if_pos hk, List.drop_eq_getElem_cons hlt]
          rw [HE.out] at hm
          simp [fidx, hm]
        have hm' : Hid ((x.f0.toList == key.toList) = true) := by show _ = _; simpa using hm
        clear hm
        go_wp2_with fail
        refine (onec_any x kb key _ qk).mono ?_
        rintro e w' ⟨rfl, rfl⟩
        rw [hm'.out]
        go_wp2
        go_ret
        exact ⟨ret_int hr.out.symm, below_new hb _⟩
      · have hm' : Hid ((x.f0.toList == key.toList) = false) := by show _ = _; simpa using hm
        have HM := hidI hm
        clear hm
        go_wp2_with fail
        refine (onec_any x kb key _ qk).mono ?_
        rintro e w' ⟨rfl, rfl⟩
        rw [hm'.out]
        go_wp2
        go_roundw
        case rel => exact ⟨k + 1, by omega, by go_num, hidI (fun j hj hjk => by
          by_cases e : j < k
          · exact hall.out j hj e
          · obtain rfl : j = k := by omega
            rw [← HE.out]; exact HM.out), below_new hb _⟩
        case measure => simp [intOf]; omega
    · have hr : Hid (fidx key 0 xs = -1) := by
        show fidx key 0 xs = -1
        rw [fidx_skip key xs 0 k hall.out, if_pos hk, List.drop_of_length_le (by omega)]; rfl
      go_wp2
      go_ret
      exact ⟨ret_int hr.out.symm, hb⟩


theorem contains_any (A : Option Addr) (xs : List A98) (c : Nat) (kb : Nat) (key : ByteArray) (w : World) (hC : Kd.C d98 w A xs.length xs) (hl : xs.length ≤ 1000000) (hk : w.cell? ⟨kb, 0, none⟩ = some (.string key)) :
    Calls Try.prog 51 #[.slice A xs.length c, .func (.func 52) #[] #[.pointer (some ⟨kb, 0, none⟩)]] w fun e w' => e = .returned (.bool (decide (0 ≤ fidx key 0 xs))) ∧ Below w.heap.size w w' := by
  have HC := hidI hC
  clear hC
  go_enter Try.func51, Try.ntmps51
  go_wp2_with fail
  refine (indexo_any A xs c kb key _ HC.out hl hk).mono ?_
  rintro e w1 ⟨rfl, hb⟩
  go_wp2
  go_ret
  exact ⟨rfl, hb⟩

end Go.Proofs.Ytliacfjdenfldaa
