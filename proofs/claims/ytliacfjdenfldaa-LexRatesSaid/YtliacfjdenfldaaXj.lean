/- LexRates: the walks. -/
import Derived.Test.YtliacfjdenfldaaXi
namespace Go.Proofs.Ytliacfjdenfldaa
open Go.RowKit Go.Proofs.Kq
set_option linter.unusedSimpArgs false
set_option linter.unusedVariables false
set_option maxHeartbeats 1000000 in
theorem lives33 (w : World) : Calls Try.prog 33 #[] w fun e w' => e = .returned (.bool true) ∧ Below w.heap.size w w' := by
  go_enter Try.func33, Try.ntmps33
  go_wp2_with fail
  refine (tokens_any _ _ (by decide)).mono ?_
  rintro e w1 ⟨hb, he⟩
  have h0 : bn (⟨#[116, 105, 101, 114, 32, 48, 32, 50, 46, 57, 37, 59]⟩ : ByteArray) = [116, 105, 101, 114, 32, 48, 32, 50, 46, 57, 37, 59] := by rfl
  rw [h0, toks_lives] at he
  simp only [] at he
  obtain ⟨v, rfl, hO⟩ := he
  obtain ⟨b, off, c, rfl, hc1, hc2, hrd⟩ := own59 hO (by decide)
  have q1 : w1.cell? ⟨b, off + 8 + 2, none⟩ = some (.int .i64 290) := hrd 2 (by decide) 2 _ rfl
  have q2 : w1.cell? ⟨b, off + 8, none⟩ = some (.int .i64 2) := hrd 2 (by decide) 0 _ rfl
  have q3 : w1.cell? ⟨b, off + 12, none⟩ = some (.int .i64 3) := hrd 3 (by decide) 0 _ rfl
  simp only [List.length_cons, List.length_nil] at hc1 ⊢
  have HB := hidI hb
  clear hrd hO hb h0
  go_wp2
  go_ret
  exact ⟨rfl, HB.out⟩
set_option maxRecDepth 100000 in
set_option maxHeartbeats 4000000 in
theorem law7 (n : Int) (w : World) (h0 : 0 ≤ n) (h1 : n < 4294967296) : Calls Try.prog 7 #[.int .u32 n] w fun e w' => e = .returned (.bool true) ∧ Below w.heap.size w w' := by
  obtain ⟨M, hM⟩ : ∃ M : Nat, (M : Int) = n % 100000000 := ⟨(n % 100000000).toNat, by omega⟩
  have hM8 : M < 100000000 := by omega
  have HM := hidI hM
  clear hM
  go_enter Try.func7, Try.ntmps7
  go_wp2_with fail
  refine (lives33 _).mono ?_
  rintro e w1 ⟨rfl, hb1⟩
  simp only []
  go_wp2_with fail
  rw [← HM.out]
  have d1 : ((M / 100 : Nat) : Int) = (M : Int) / 100 := by omega
  have d2 : ((M / 10 % 10 : Nat) : Int) = (M : Int) / 10 % 10 := by omega
  have d3 : ((M % 10 : Nat) : Int) = (M : Int) % 10 := by omega
  have d4 : ((M / 10 : Nat) : Int) = (M : Int) / 10 := by omega
  have c1 := digits_any (M / 100)
  have c2 := digits_any (M / 10 % 10)
  have c3 := digits_any (M % 10)
  have c4 := digits_any (M / 10)
  rw [d1] at c1
  rw [d2] at c2
  rw [d3] at c3
  rw [d4] at c4
  have C1 := hidI c1
  have C2 := hidI c2
  have C3 := hidI c3
  have C4 := hidI c4
  clear c1 c2 c3 c4 d1 d2 d3 d4
  have z1 : (strOfNums (dg (M / 100))).size ≤ 7 := by rw [sn_size]; have := dg_len9 6 (M / 100) (by omega); omega
  have z2 : (strOfNums (dg (M / 10 % 10))).size = 1 := by rw [sn_size, dg_one _ (by omega)]; rfl
  have z3 : (strOfNums (dg (M % 10))).size = 1 := by rw [sn_size, dg_one _ (by omega)]; rfl
  have z4 : (strOfNums (dg (M / 10))).size ≤ 8 := by rw [sn_size]; have := dg_len9 7 (M / 10) (by omega); omega
  have k1 : ¬ (9223372036854775807 < (strOfNums (dg (M / 100))).size + 1) := by omega
  have k2 : ¬ (9223372036854775807 < (strOfNums (dg (M / 100))).size + 1 + 1) := by omega
  have k3 : ¬ (9223372036854775807 < (strOfNums (dg (M / 100))).size + 1 + 1 + 1) := by omega
  have k4 : ¬ (9223372036854775807 < (strOfNums (dg (M / 100))).size + 1 + 1 + 1 + 1) := by omega
  have k5 : ¬ (9223372036854775807 < (strOfNums (dg (M / 10))).size + 1) := by omega
  have k6 : ¬ (9223372036854775807 < (strOfNums (dg (M / 10))).size + 1 + 1) := by omega
  have k7 : ¬ (9223372036854775807 < (strOfNums (dg (M / 10))).size + 1 + 1 + 1) := by omega
  refine (C1.out _ (by omega)).mono ?_
  rintro e w' ⟨rfl, rfl⟩
  simp only []
  go_wp2_with fail
  refine (C2.out _ (by omega)).mono ?_
  rintro e w' ⟨rfl, rfl⟩
  simp only []
  go_wp2_with fail
  refine (C3.out _ (by omega)).mono ?_
  rintro e w' ⟨rfl, rfl⟩
  simp only []
  go_wp2_with fail
  refine (C4.out _ (by omega)).mono ?_
  rintro e w' ⟨rfl, rfl⟩
  simp only []
  go_wp2_with fail
  refine (C3.out _ (by omega)).mono ?_
  rintro e w' ⟨rfl, rfl⟩
  simp only []
  go_wp2_with fail
  have E2 : strOfNums (dg (M / 100)) ++ ⟨#[46]⟩ ++ strOfNums (dg (M / 10 % 10)) ++ strOfNums (dg (M % 10)) ++ ⟨#[37]⟩ = strOfNums (dg (M / 100) ++ 46 :: ((dg (M / 10 % 10) ++ dg (M % 10)) ++ [37])) := by
    have a1 : (⟨#[46]⟩ : ByteArray) = strOfNums [46] := rfl
    have a2 : (⟨#[37]⟩ : ByteArray) = strOfNums [37] := rfl
    rw [a1, a2, ← sn_app, ← sn_app, ← sn_app, ← sn_app]; congr 1; simp
  have E1 : strOfNums (dg (M / 10)) ++ ⟨#[46]⟩ ++ strOfNums (dg (M % 10)) ++ ⟨#[37]⟩ = strOfNums (dg (M / 10) ++ 46 :: (dg (M % 10) ++ [37])) := by
    have a1 : (⟨#[46]⟩ : ByteArray) = strOfNums [46] := rfl
    have a2 : (⟨#[37]⟩ : ByteArray) = strOfNums [37] := rfl
    rw [a1, a2, ← sn_app, ← sn_app, ← sn_app]; congr 1; simp
  rw [E1, E2]
  clear E1 E2
  have b2 : bn (strOfNums (dg (M / 100) ++ 46 :: ((dg (M / 10 % 10) ++ dg (M % 10)) ++ [37]))) = dg (M / 100) ++ 46 :: ((dg (M / 10 % 10) ++ dg (M % 10)) ++ [37]) := bn_sn (by
    intro z hz
    simp only [List.mem_append, List.mem_cons, List.not_mem_nil, or_false] at hz
    rcases hz with h | rfl | (h | h) | rfl
    · have := dg_dig _ z h; omega
    · omega
    · have := dg_dig _ z h; omega
    · have := dg_dig _ z h; omega
    · omega)
  have b1 : bn (strOfNums (dg (M / 10) ++ 46 :: (dg (M % 10) ++ [37]))) = dg (M / 10) ++ 46 :: (dg (M % 10) ++ [37]) := bn_sn (by
    intro z hz
    simp only [List.mem_append, List.mem_cons, List.not_mem_nil, or_false] at hz
    rcases hz with h | rfl | h | rfl
    · have := dg_dig _ z h; omega
    · omega
    · have := dg_dig _ z h; omega
    · omega)
  have t2 := toks_two M hM8
  have t1 := toks_one M hM8
  rw [← b2] at t2
  rw [← b1] at t1
  have s2 : (strOfNums (dg (M / 100) ++ 46 :: ((dg (M / 10 % 10) ++ dg (M % 10)) ++ [37]))).size ≤ 1000000000 := by
    rw [sn_size] at z1 z2 z3 ⊢; simp; omega
  have s1 : (strOfNums (dg (M / 10) ++ 46 :: (dg (M % 10) ++ [37]))).size ≤ 1000000000 := by
    rw [sn_size] at z4 z3 ⊢; simp; omega
  rw [b2] at t2
  rw [b1] at t1
  have T2 : Hid (toks (bn (strOfNums (dg (M / 100) ++ 46 :: ((dg (M / 10 % 10) ++ dg (M % 10)) ++ [37])))) 0 [] = .inl [⟨2, strOfNums (dg (M / 100) ++ 46 :: ((dg (M / 10 % 10) ++ dg (M % 10)) ++ [37])), M, 0⟩]) := by show _ = _; rw [b2, t2]
  have T1 : Hid (toks (bn (strOfNums (dg (M / 10) ++ 46 :: (dg (M % 10) ++ [37])))) 0 [] = if 1000000 < M / 10 then .inr (0, 2) else .inl [⟨2, strOfNums (dg (M / 10) ++ 46 :: (dg (M % 10) ++ [37])), 10 * M, 0⟩]) := by show _ = _; rw [b1, t1]
  clear t1 t2 b1 b2 z1 z2 z3 z4 k1 k2 k3 k4 k5 k6 k7 C1 C2 C3 C4
  generalize strOfNums (dg (M / 100) ++ 46 :: ((dg (M / 10 % 10) ++ dg (M % 10)) ++ [37])) = S2 at *
  generalize strOfNums (dg (M / 10) ++ 46 :: (dg (M % 10) ++ [37])) = S1 at *
  refine (tokens_any S2 _ s2).mono ?_
  rintro e w2 ⟨hb2, he⟩
  rw [T2.out] at he
  obtain ⟨v2, rfl, hO2⟩ := he
  simp only []
  go_wp2_with fail
  refine (tokens_any S1 _ s1).mono ?_
  rintro e w3 ⟨hb3, he⟩
  rw [T1.out] at he
  have hO3 := hO2.below hb3
  obtain ⟨b, off, c, rfl, hc1, hc2, hrd⟩ := own59 hO3 (by simp)
  have q1 : w3.cell? ⟨b, off + 2, none⟩ = some (.int .i64 M) := hrd 0 (by simp) 2 _ rfl
  have q2 : w3.cell? ⟨b, off, none⟩ = some (.int .i64 2) := hrd 0 (by simp) 0 _ rfl
  have q3 : w3.cell? ⟨b, off + 1, none⟩ = some (.string S2) := hrd 0 (by simp) 1 _ rfl
  have HB := hidI ((hb1.trans (hb2.mono hb1.size)).trans (hb3.mono (Nat.le_trans hb1.size hb2.size)))
  simp only [List.length_cons, List.length_nil] at hc1 ⊢
  clear hrd hO3 hb2 hO2 T1 T2 hb1
  by_cases hov : 1000000 < M / 10
  · rw [if_pos hov] at he
    simp only [] at he
    subst he
    have hov' : 1000000 < (M : Int) / 10 := by omega
    clear hb3
    go_wp2
    go_ret
    exact ⟨rfl, HB.out⟩
  · rw [if_neg hov] at he
    obtain ⟨v1, rfl, hO1⟩ := he
    obtain ⟨b', off', c', rfl, hc1', hc2', hrd'⟩ := own59 hO1 (by simp)
    have q4 : w3.cell? ⟨b', off' + 2, none⟩ = some (.int .i64 (10 * M)) := hrd' 0 (by simp) 2 _ rfl
    simp only [List.length_cons, List.length_nil] at hc1' ⊢
    have hov' : (M : Int) / 10 ≤ 1000000 := by omega
    clear hrd' hO1 hb3
    go_wp2
    go_ret
    exact ⟨rfl, HB.out⟩
end Go.Proofs.Ytliacfjdenfldaa
