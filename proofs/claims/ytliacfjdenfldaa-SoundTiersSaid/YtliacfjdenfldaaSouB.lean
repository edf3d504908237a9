import Derived.Test.YtliacfjdenfldaaSou
namespace Go.Proofs.Ytliacfjdenfldaa
open Go.RowKit Go.Proofs.Sm Go.Proofs.YtliacfjdenfldaaW.PrintWords
set_option linter.unusedSimpArgs false
set_option linter.unusedVariables false

/-- the number of the first rule of a kind -/
def numF : List A48 → ByteArray → Int → Int
  | [], _, o => o
  | x :: xs, k, o => if x.f0.toList = k.toList then x.f2 else numF xs k o
theorem numF_skip (kd : ByteArray) (o : Int) : ∀ (xs : List A48) (k : Nat), (∀ j (h : j < xs.length), j < k → ¬ xs[j].f0.toList = kd.toList) → numF xs kd o = numF (xs.drop k) kd o
  | [], k, _ => by simp [numF]
  | x :: xs, 0, _ => rfl
  | x :: xs, k + 1, h => by
    have h0 := h 0 (by simp) (by omega)
    simp only [List.getElem_cons_zero] at h0
    simp only [numF, if_neg h0, List.drop_succ_cons]
    exact numF_skip kd o xs k (fun j hj hk => by have := h (j + 1) (by simp; omega) (by omega); simpa using this)

set_option maxHeartbeats 2000000 in
theorem number_any (A : Option Addr) (xs : List A48) (c : Nat) (kd : ByteArray) (o : Int) (w : World) (hC : Kd.C d48 w A xs.length xs) (hl : xs.length ≤ 1000000) :
    Calls Try.prog 78 #[.slice A xs.length c, .string kd, .int .i64 o] w fun e w' => e = .returned (.int .i64 (numF xs kd o)) ∧ Below w.heap.size w w' := by
  by_cases h0 : xs = []
  · subst h0
    go_enter Try.func78, Try.ntmps78
    go_wp2
    refine wp_loop_rounds 1 ?_
    rw [rounds_succ]
    go_wp2
    go_ret
    exact ⟨ret_int rfl, Below.refl _ _⟩
  obtain ⟨b, off, rfl, hx⟩ := Kp.C_open hC (List.length_pos_iff.2 h0) (by decide)
  have HX := hidI hx
  clear hx h0 hC
  go_enter Try.func78, Try.ntmps78
  go_wp2
  go_loopw [11] (fun i wr => ∃ k : Nat, k ≤ xs.length ∧ i = .int .i64 k ∧ Hid (∀ j (h : j < xs.length), j < k → ¬ xs[j].f0.toList = kd.toList) ∧ Below w.heap.size w wr) (fun i _ => xs.length - (intOf i).toNat)
  case atStart => exact ⟨0, Nat.zero_le _, rfl, hidI (fun j _ h => absurd h (by omega)), Below.refl _ _⟩
  case round =>
    obtain ⟨k, hk, rfl, hall, hb⟩ := hrel
    by_cases hlt : k < xs.length
    · obtain ⟨x, hxe⟩ : ∃ x, x = xs[k] := ⟨_, rfl⟩
      have q0 : wr.cell? ⟨b, off + k * 4, none⟩ = some (.string x.f0) := by rw [hxe]; exact pw_cell_below hb (HX.out k hlt 0 _ rfl)
      have q1 : wr.cell? ⟨b, off + k * 4 + 1, none⟩ = some (.string x.f1) := by rw [hxe]; exact pw_cell_below hb (HX.out k hlt 1 _ rfl)
      have q2 : wr.cell? ⟨b, off + k * 4 + 2, none⟩ = some (.int .i64 x.f2) := by rw [hxe]; exact pw_cell_below hb (HX.out k hlt 2 _ rfl)
      have q3 : wr.cell? ⟨b, off + k * 4 + 3, none⟩ = some (.int .i64 x.f3) := by rw [hxe]; exact pw_cell_below hb (HX.out k hlt 3 _ rfl)
      have HE := hidI hxe
      clear hxe
      by_cases hm : x.f0.toList = kd.toList
      · have hr : Hid (numF xs kd o = x.f2) := by
          show numF xs kd o = x.f2
          rw [numF_skip kd o xs k hall.out, List.drop_eq_getElem_cons hlt]
          rw [HE.out] at hm ⊢
          exact if_pos hm
        have hm' : (x.f0.toList == kd.toList) = true := by simpa using hm
        clear hm
        go_wp2
        go_ret
        exact ⟨ret_int hr.out.symm, below_new hb _⟩
      · have hm' : (x.f0.toList == kd.toList) = false := by simpa using hm
        have HM := hidI hm
        clear hm
        go_wp2
        go_roundw
        case rel => exact ⟨k + 1, by omega, by go_num, hidI (fun j hj hjk => by
          by_cases e : j < k
          · exact hall.out j hj e
          · obtain rfl : j = k := by omega
            rw [← HE.out]; exact HM.out), below_new hb _⟩
        case measure => simp [intOf]; omega
    · have hr : Hid (numF xs kd o = o) := by
        show numF xs kd o = o
        rw [numF_skip kd o xs k hall.out, List.drop_of_length_le (by omega)]; rfl
      go_wp2
      go_ret
      exact ⟨ret_int hr.out.symm, hb⟩

end Go.Proofs.Ytliacfjdenfldaa
