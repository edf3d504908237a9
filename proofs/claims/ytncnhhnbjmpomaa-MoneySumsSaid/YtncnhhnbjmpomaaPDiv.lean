/- math/bits.Div64: what its printed function tells is the quotient and the rest. -/
import Derived.Test.YtncnhhnbjmpomaaQ40
import Derived.Laws.Bits64b
import Derived.Lib.ItoaNum
namespace Go.Proofs.Ytncnhhnbjmpomaa.Q
open Go.RowKit Go.Proofs.YtncnhhnbjmpomaaW.PrintWords Go.Proofs.YtncnhhnbjmpomaaW.PrintLast Go.Proofs.YtncnhhnbjmpomaaW.PrintMore
set_option linter.unusedVariables false
set_option linter.unusedSimpArgs false
theorem w64 {x : Int} (h0 : 0 ≤ x) (h1 : x < 18446744073709551616) : IntKind.u64.wrap x = x := by
  rw [IntKind.wrap_u64]; omega
theorem w64m (x : Int) : IntKind.u64.wrap x = x % 18446744073709551616 := IntKind.wrap_u64 x
/-- the digit that is sought -/
theorem digit_facts {x2 x9 x10 x11 x13 q r : Int} (h9 : 0 < x9) (h10 : 0 ≤ x10) (hy : x2 = x9 * 4294967296 + x10) (hqr : q * x9 + r = x11) :
    (q * x2 ≤ x11 * 4294967296 + x13 ↔ q * x10 ≤ 4294967296 * r + x13) := by
  have e : q * x2 = (q * x9) * 4294967296 + q * x10 := by rw [hy, Int.mul_add, ← Int.mul_assoc]
  rw [e, ← hqr]
  generalize q * x9 = a
  generalize q * x10 = b
  omega
theorem l0_ok (x2 x8 x9 x10 x11 x13 x14 : Int) (h9 : 0 < x9) (h9b : x9 < 4294967296) (h10 : 0 ≤ x10) (h10b : x10 < 4294967296) (hy : x2 = x9 * 4294967296 + x10) (h13 : 0 ≤ x13) (h13b : x13 < 4294967296) (h11 : 0 ≤ x11) (h11b : x11 < x2) :
    ∀ (d : Nat) (q r : Int), q - (x11 * 4294967296 + x13) / x2 = d → 0 ≤ r → r < 4294967296 → q * x9 + r = x11 → q ≤ 4294967297 →
      ∃ m, ∀ k, bits_Div64.l0 (k + m) x2 x8 x9 x10 x11 x13 x14 q r = bits_Div64.j2 k x2 x8 x9 x10 x11 x13 x14 ((x11 * 4294967296 + x13) / x2) := by
  have h2 : 0 < x2 := by rw [hy]; omega
  have hQ0 : 0 ≤ (x11 * 4294967296 + x13) / x2 := Int.ediv_nonneg (by omega) (by omega)
  have hQB : (x11 * 4294967296 + x13) / x2 < 4294967296 := by
    apply Int.ediv_lt_of_lt_mul h2
    have : x11 + 1 ≤ x2 := by omega
    omega
  have hQ1 : ∀ q, q * x2 ≤ x11 * 4294967296 + x13 → q ≤ (x11 * 4294967296 + x13) / x2 := fun q h => Int.le_ediv_of_mul_le h2 h
  have hQ2 : (x11 * 4294967296 + x13) / x2 * x2 ≤ x11 * 4294967296 + x13 := Int.ediv_mul_le _ (by omega)
  generalize (x11 * 4294967296 + x13) / x2 = Q at *
  intro d
  induction d with
  | zero =>
    intro q r hd hr0 hr1 hqr hq
    have e : q = Q := by omega
    subst e
    have hle := (digit_facts h9 h10 hy hqr).1 hQ2
    have hb1 : 0 ≤ q * x10 := Int.mul_nonneg hQ0 h10
    have hb2 : q * x10 < 18446744073709551616 := by
      have : q * x10 ≤ 4294967295 * x10 := Int.mul_le_mul_of_nonneg_right (by omega) h10
      omega
    refine ⟨2, fun k => ?_⟩
    show bits_Div64.l0 (k + 1 + 1) _ _ _ _ _ _ _ _ _ = _
    simp only [bits_Div64.l0]
    rw [if_neg (by omega), w64 hb1 hb2, w64 (x := 4294967296 * r) (by omega) (by omega), w64 (x := 4294967296 * r + x13) (by omega) (by omega)]
    have : decide (q * x10 > 4294967296 * r + x13) = false := by simpa using hle
    rw [this]
    simp only [bits_Div64.j1]
    rw [if_neg (by decide)]
  | succ d ih =>
    intro q r hd hr0 hr1 hqr hq
    have hgt : Q < q := by omega
    have hnot : ¬ q * x2 ≤ x11 * 4294967296 + x13 := fun h => by have := hQ1 q h; omega
    have hnle : ¬ q * x10 ≤ 4294967296 * r + x13 := fun h => hnot ((digit_facts h9 h10 hy hqr).2 h)
    have hqr' : (q - 1) * x9 + (r + x9) = x11 := by rw [Int.sub_mul]; omega
    have step : ∀ k, bits_Div64.l0 (k + 1 + 1) x2 x8 x9 x10 x11 x13 x14 q r = if r + x9 ≥ 4294967296 then bits_Div64.j2 k x2 x8 x9 x10 x11 x13 x14 (q - 1) else bits_Div64.l0 k x2 x8 x9 x10 x11 x13 x14 (q - 1) (r + x9) := by
      intro k
      simp only [bits_Div64.l0]
      have hj : bits_Div64.j1 (k + 1) x2 x8 x9 x10 x11 x13 x14 q r true = if r + x9 ≥ 4294967296 then bits_Div64.j2 k x2 x8 x9 x10 x11 x13 x14 (q - 1) else bits_Div64.l0 k x2 x8 x9 x10 x11 x13 x14 (q - 1) (r + x9) := by
        simp only [bits_Div64.j1]
        rw [if_pos trivial, w64 (x := r + x9) (by omega) (by omega), w64 (x := q - 1) (by omega) (by omega)]
      by_cases hqB : q ≥ 4294967296
      · rw [if_pos hqB, hj]
      · have hb1 : 0 ≤ q * x10 := Int.mul_nonneg (by omega) h10
        have hb2 : q * x10 < 18446744073709551616 := by
          have : q * x10 ≤ 4294967295 * x10 := Int.mul_le_mul_of_nonneg_right (by omega) h10
          omega
        rw [if_neg hqB, w64 hb1 hb2, w64 (x := 4294967296 * r) (by omega) (by omega), w64 (x := 4294967296 * r + x13) (by omega) (by omega)]
        have : decide (q * x10 > 4294967296 * r + x13) = true := by simp; omega
        rw [this, hj]
    by_cases hbr : r + x9 ≥ 4294967296
    · have hle : (q - 1) * x2 ≤ x11 * 4294967296 + x13 := by
        rw [digit_facts h9 h10 hy hqr']
        have : (q - 1) * x10 ≤ 4294967296 * x10 := Int.mul_le_mul_of_nonneg_right (by omega) h10
        omega
      have e : q - 1 = Q := by have := hQ1 _ hle; omega
      refine ⟨2, fun k => ?_⟩
      rw [show k + 2 = k + 1 + 1 from rfl, step, if_pos hbr, e]
    · obtain ⟨m, hm⟩ := ih (q - 1) (r + x9) (by omega) (by omega) (by omega) hqr' (by omega)
      refine ⟨m + 2, fun k => ?_⟩
      rw [show k + (m + 2) = k + m + 1 + 1 by omega, step, if_neg hbr, hm]
def fin1 (x2 x8 x17 x14 x15 q : Int) : Option (Int × Int) := some (IntKind.u64.wrap (IntKind.u64.wrap (x15 * 4294967296) + q), shr .u64 (IntKind.u64.wrap (IntKind.u64.wrap (IntKind.u64.wrap (x17 * 4294967296) + x14) - IntKind.u64.wrap (q * x2))) x8)
theorem l1_ok (x2 x8 x9 x10 x11 x13 x15 : Int) (h8 : 0 ≤ x8) (h9 : 0 < x9) (h9b : x9 < 4294967296) (h10 : 0 ≤ x10) (h10b : x10 < 4294967296) (hy : x2 = x9 * 4294967296 + x10) (h13 : 0 ≤ x13) (h13b : x13 < 4294967296) (h11 : 0 ≤ x11) (h11b : x11 < x2) :
    ∀ (d : Nat) (q r : Int), q - (x11 * 4294967296 + x13) / x2 = d → 0 ≤ r → r < 4294967296 → q * x9 + r = x11 → q ≤ 4294967297 →
      ∃ m, ∀ k, bits_Div64.l1 (k + m) x2 x8 x9 x10 x13 x15 r x11 q = fin1 x2 x8 x11 x13 x15 ((x11 * 4294967296 + x13) / x2) := by
  have h2 : 0 < x2 := by rw [hy]; omega
  have hQ0 : 0 ≤ (x11 * 4294967296 + x13) / x2 := Int.ediv_nonneg (by omega) (by omega)
  have hQB : (x11 * 4294967296 + x13) / x2 < 4294967296 := by
    apply Int.ediv_lt_of_lt_mul h2
    have : x11 + 1 ≤ x2 := by omega
    omega
  have hQ1 : ∀ q, q * x2 ≤ x11 * 4294967296 + x13 → q ≤ (x11 * 4294967296 + x13) / x2 := fun q h => Int.le_ediv_of_mul_le h2 h
  have hQ2 : (x11 * 4294967296 + x13) / x2 * x2 ≤ x11 * 4294967296 + x13 := Int.ediv_mul_le _ (by omega)
  generalize (x11 * 4294967296 + x13) / x2 = Q at *
  intro d
  induction d with
  | zero =>
    intro q r hd hr0 hr1 hqr hq
    have e : q = Q := by omega
    subst e
    have hle := (digit_facts h9 h10 hy hqr).1 hQ2
    have hb1 : 0 ≤ q * x10 := Int.mul_nonneg hQ0 h10
    have hb2 : q * x10 < 18446744073709551616 := by
      have : q * x10 ≤ 4294967295 * x10 := Int.mul_le_mul_of_nonneg_right (by omega) h10
      omega
    refine ⟨2, fun k => ?_⟩
    show bits_Div64.l1 (k + 1 + 1) _ _ _ _ _ _ _ _ _ = _
    simp only [bits_Div64.l1]
    rw [if_neg (by omega), w64 hb1 hb2, w64 (x := 4294967296 * r) (by omega) (by omega), w64 (x := 4294967296 * r + x13) (by omega) (by omega)]
    have : decide (q * x10 > 4294967296 * r + x13) = false := by simpa using hle
    rw [this]
    simp only [bits_Div64.j4]
    rw [if_neg (by decide), if_pos h8]
    rfl
  | succ d ih =>
    intro q r hd hr0 hr1 hqr hq
    have hgt : Q < q := by omega
    have hnot : ¬ q * x2 ≤ x11 * 4294967296 + x13 := fun h => by have := hQ1 q h; omega
    have hnle : ¬ q * x10 ≤ 4294967296 * r + x13 := fun h => hnot ((digit_facts h9 h10 hy hqr).2 h)
    have hqr' : (q - 1) * x9 + (r + x9) = x11 := by rw [Int.sub_mul]; omega
    have step : ∀ k, bits_Div64.l1 (k + 1 + 1) x2 x8 x9 x10 x13 x15 r x11 q = if r + x9 ≥ 4294967296 then fin1 x2 x8 x11 x13 x15 (q - 1) else bits_Div64.l1 k x2 x8 x9 x10 x13 x15 (r + x9) x11 (q - 1) := by
      intro k
      simp only [bits_Div64.l1]
      have hj : bits_Div64.j4 (k + 1) x2 x8 x9 x10 x13 x15 r x11 q true = if r + x9 ≥ 4294967296 then fin1 x2 x8 x11 x13 x15 (q - 1) else bits_Div64.l1 k x2 x8 x9 x10 x13 x15 (r + x9) x11 (q - 1) := by
        simp only [bits_Div64.j4]
        rw [if_pos trivial, w64 (x := r + x9) (by omega) (by omega), w64 (x := q - 1) (by omega) (by omega), if_pos h8]
        rfl
      by_cases hqB : q ≥ 4294967296
      · rw [if_pos hqB, hj]
      · have hb1 : 0 ≤ q * x10 := Int.mul_nonneg (by omega) h10
        have hb2 : q * x10 < 18446744073709551616 := by
          have : q * x10 ≤ 4294967295 * x10 := Int.mul_le_mul_of_nonneg_right (by omega) h10
          omega
        rw [if_neg hqB, w64 hb1 hb2, w64 (x := 4294967296 * r) (by omega) (by omega), w64 (x := 4294967296 * r + x13) (by omega) (by omega)]
        have : decide (q * x10 > 4294967296 * r + x13) = true := by simp; omega
        rw [this, hj]
    by_cases hbr : r + x9 ≥ 4294967296
    · have hle : (q - 1) * x2 ≤ x11 * 4294967296 + x13 := by
        rw [digit_facts h9 h10 hy hqr']
        have : (q - 1) * x10 ≤ 4294967296 * x10 := Int.mul_le_mul_of_nonneg_right (by omega) h10
        omega
      have e : q - 1 = Q := by have := hQ1 _ hle; omega
      refine ⟨2, fun k => ?_⟩
      rw [show k + 2 = k + 1 + 1 from rfl, step, if_pos hbr, e]
    · obtain ⟨m, hm⟩ := ih (q - 1) (r + x9) (by omega) (by omega) (by omega) hqr' (by omega)
      refine ⟨m + 2, fun k => ?_⟩
      rw [show k + (m + 2) = k + m + 1 + 1 by omega, step, if_neg hbr, hm]
theorem j2_ok (x2 x8 x9 x10 x11 x13 x14 : Int) (h8 : 0 ≤ x8) (h9 : 2147483648 ≤ x9) (h9b : x9 < 4294967296) (h10 : 0 ≤ x10) (h10b : x10 < 4294967296) (hy : x2 = x9 * 4294967296 + x10) (h13 : 0 ≤ x13) (h13b : x13 < 4294967296) (h11 : 0 ≤ x11) (h11b : x11 < x2) (h14 : 0 ≤ x14) (h14b : x14 < 4294967296) :
    ∃ k, bits_Div64.j2 k x2 x8 x9 x10 x11 x13 x14 ((x11 * 4294967296 + x13) / x2) = some (((x11 * 4294967296 + x13) * 4294967296 + x14) / x2, shr .u64 (((x11 * 4294967296 + x13) * 4294967296 + x14) % x2) x8) := by
  have h2 : 0 < x2 := by rw [hy]; omega
  have h2b : x2 < 18446744073709551616 := by rw [hy]; omega
  have hQ0 : 0 ≤ (x11 * 4294967296 + x13) / x2 := Int.ediv_nonneg (by omega) (by omega)
  have hQB : (x11 * 4294967296 + x13) / x2 < 4294967296 := by
    apply Int.ediv_lt_of_lt_mul h2
    have : x11 + 1 ≤ x2 := by omega
    omega
  have hU0 := Int.emod_nonneg (x11 * 4294967296 + x13) (b := x2) (by omega)
  have hU1 := Int.emod_lt_of_pos (x11 * 4294967296 + x13) h2
  have hUe := Int.mul_ediv_add_emod (x11 * 4294967296 + x13) x2
  have hN : ((x11 * 4294967296 + x13) * 4294967296 + x14) = ((x11 * 4294967296 + x13) % x2 * 4294967296 + x14) + ((x11 * 4294967296 + x13) / x2 * 4294967296) * x2 := by
    have e1 : (x11 * 4294967296 + x13) / x2 * 4294967296 * x2 = (x2 * ((x11 * 4294967296 + x13) / x2)) * 4294967296 := by
      rw [Int.mul_comm x2, Int.mul_assoc, Int.mul_assoc, Int.mul_comm 4294967296 x2]
    rw [e1]
    omega
  rw [hN, Int.add_mul_ediv_right _ _ (by omega), Int.add_mul_emod_self_right]
  generalize hQ : (x11 * 4294967296 + x13) / x2 = Q at *
  generalize hUd : (x11 * 4294967296 + x13) % x2 = U at *
  have h9p : 0 < x9 := by omega
  have hq0 : 0 ≤ U / x9 := Int.ediv_nonneg hU0 (by omega)
  have hq1 : U / x9 ≤ 4294967297 := by
    have : U / x9 < 4294967298 := by
      apply Int.ediv_lt_of_lt_mul h9p
      rw [hy] at hU1
      omega
    omega
  have hr0 := Int.emod_nonneg U (b := x9) (by omega)
  have hr1 := Int.emod_lt_of_pos U h9p
  have hre := Int.mul_ediv_add_emod U x9
  have hqr : U / x9 * x9 + U % x9 = U := by rw [Int.mul_comm]; exact hre
  have hQQ0 : 0 ≤ (U * 4294967296 + x14) / x2 := Int.ediv_nonneg (by omega) (by omega)
  have hQQB : (U * 4294967296 + x14) / x2 < 4294967296 := by
    apply Int.ediv_lt_of_lt_mul h2
    have : U + 1 ≤ x2 := by omega
    omega
  have hge : (U * 4294967296 + x14) / x2 ≤ U / x9 := by
    apply Int.le_ediv_of_mul_le h9p
    have h1 : (U * 4294967296 + x14) / x2 * x2 ≤ U * 4294967296 + x14 := Int.ediv_mul_le _ (by omega)
    have e : (U * 4294967296 + x14) / x2 * x2 = ((U * 4294967296 + x14) / x2 * x9) * 4294967296 + (U * 4294967296 + x14) / x2 * x10 := by rw [hy, Int.mul_add, ← Int.mul_assoc]
    rw [e] at h1
    have h2' : 0 ≤ (U * 4294967296 + x14) / x2 * x10 := Int.mul_nonneg hQQ0 h10
    generalize (U * 4294967296 + x14) / x2 * x10 = p1 at *
    generalize (U * 4294967296 + x14) / x2 * x9 = p2 at *
    omega
  obtain ⟨m, hm⟩ := l1_ok x2 x8 x9 x10 U x14 Q h8 h9p h9b h10 h10b hy h14 h14b hU0 hU1 (U / x9 - (U * 4294967296 + x14) / x2).toNat (U / x9) (U % x9) (by omega) hr0 (by omega) hqr hq1
  refine ⟨m + 1, ?_⟩
  simp only [bits_Div64.j2]
  rw [if_neg (by omega)]
  have eU : IntKind.u64.wrap (IntKind.u64.wrap (IntKind.u64.wrap (x11 * 4294967296) + x13) - IntKind.u64.wrap (Q * x2)) = U := by
    rw [w64m, w64m, w64m, w64m]
    have : x2 * Q = Q * x2 := Int.mul_comm _ _
    rw [this] at hUe
    generalize Q * x2 = p at *
    omega
  rw [eU]
  have et : Int.tdiv U x9 = U / x9 := Int.tdiv_eq_ediv_of_nonneg hU0
  have ew : IntKind.u64.wrap (U / x9) = U / x9 := w64 hq0 (by omega)
  rw [et, ew]
  have er : IntKind.u64.wrap (U - IntKind.u64.wrap (U / x9 * x9)) = U % x9 := by
    rw [w64m, w64m]
    generalize U / x9 * x9 = p at *
    omega
  rw [er]
  have := hm 0
  rw [Nat.zero_add] at this
  rw [this]
  unfold fin1
  have e1 : IntKind.u64.wrap (IntKind.u64.wrap (Q * 4294967296) + (U * 4294967296 + x14) / x2) = (U * 4294967296 + x14) / x2 + Q * 4294967296 := by
    rw [w64m, w64m]; omega
  have hRe := Int.mul_ediv_add_emod (U * 4294967296 + x14) x2
  have hR0 := Int.emod_nonneg (U * 4294967296 + x14) (b := x2) (by omega)
  have hR1 := Int.emod_lt_of_pos (U * 4294967296 + x14) h2
  have e2 : IntKind.u64.wrap (IntKind.u64.wrap (IntKind.u64.wrap (U * 4294967296) + x14) - IntKind.u64.wrap ((U * 4294967296 + x14) / x2 * x2)) = (U * 4294967296 + x14) % x2 := by
    rw [w64m, w64m, w64m, w64m]
    rw [Int.mul_comm x2] at hRe
    generalize (U * 4294967296 + x14) / x2 * x2 = p at *
    generalize (U * 4294967296 + x14) % x2 = q at *
    omega
  rw [e1, e2]
theorem and32 (x : Int) (h0 : 0 ≤ x) (h1 : x < 18446744073709551616) : Go.bits .and .u64 x 4294967295 = x % 4294967296 := by
  obtain ⟨n, rfl⟩ := Int.eq_ofNat_of_zero_le h0
  have := bits_and_u64_nat n 4294967295 (by omega) (by decide)
  have e : ((4294967295 : Nat) : Int) = 4294967295 := rfl
  rw [e] at this
  have h2 : n &&& 4294967295 = n % 4294967296 := Nat.and_two_pow_sub_one_eq_mod n 32
  rw [this, h2]; omega
theorem or_shl (a b : Nat) (s : Nat) (hb : b < 2 ^ s) (h : 2 ^ s * a + b < 18446744073709551616) : Go.bits .or .u64 (2 ^ s * a : Nat) (b : Nat) = ((2 ^ s * a + b : Nat) : Int) := by
  rw [bits_or_u64_nat _ _ (by omega) (by omega), ← Nat.two_pow_add_eq_or_of_lt hb]
theorem cast_shl (x s : Nat) : (x : Int) * 2 ^ s = ((x * 2 ^ s : Nat) : Int) := by rw [Int.natCast_mul, Int.natCast_pow]; rfl
theorem cast_shr (x s : Nat) : (x : Int) / 2 ^ s = ((x / 2 ^ s : Nat) : Int) := by rw [Int.natCast_ediv, Int.natCast_pow]; rfl
theorem nat_partsX (X : Nat) (h : 9223372036854775808 ≤ X) (h2 : X < 18446744073709551616) : 2147483648 ≤ (X : Int) / 4294967296 ∧ (X : Int) / 4294967296 < 4294967296 ∧ 0 ≤ (X : Int) % 4294967296 ∧ (X : Int) % 4294967296 < 4294967296 ∧ (X : Int) = (X : Int) / 4294967296 * 4294967296 + (X : Int) % 4294967296 := by omega
theorem nat_partsL (L : Nat) (h2 : L < 18446744073709551616) : 0 ≤ (L : Int) / 4294967296 ∧ (L : Int) / 4294967296 < 4294967296 ∧ 0 ≤ (L : Int) % 4294967296 ∧ (L : Int) % 4294967296 < 4294967296 := by omega
theorem toNat_dist (a b : Int) (h : b ≤ a) : a - b = ((a - b).toNat : Int) := by omega
theorem div64_ok (a0 a1 a2 : Int) (h0 : 0 ≤ a0) (h02 : a0 < a2) (h2 : a2 < 18446744073709551616) (h1 : 0 ≤ a1) (h1b : a1 < 18446744073709551616) :
    ∃ k, bits_Div64.f k a0 a1 a2 = some ((a0 * 18446744073709551616 + a1) / a2, (a0 * 18446744073709551616 + a1) % a2) := by
  by_cases hz : a0 = 0
  · subst hz
    refine ⟨0, ?_⟩
    unfold bits_Div64.f
    rw [if_neg (by omega), if_neg (by omega), if_pos rfl]
    have e1 : Int.tdiv a1 a2 = a1 / a2 := Int.tdiv_eq_ediv_of_nonneg h1
    have e2 : Int.tmod a1 a2 = a1 % a2 := Int.tmod_eq_emod_of_nonneg h1
    have h3 : 0 ≤ a1 / a2 := Int.ediv_nonneg h1 (by omega)
    have h4 : a1 / a2 ≤ a1 := Int.ediv_le_self _ h1
    rw [e1, e2, w64 h3 (by omega)]
    simp
  · obtain ⟨n0, rfl⟩ := Int.eq_ofNat_of_zero_le h0
    obtain ⟨n1, rfl⟩ := Int.eq_ofNat_of_zero_le h1
    obtain ⟨n2, rfl⟩ := Int.eq_ofNat_of_zero_le (show 0 ≤ a2 by omega)
    have hbl := Go.Lib.bitLenAux_bounds 64 n2 (by omega) (by omega)
    have hbl64 := Go.Lib.bitLen_le n2 64 (by omega) (by omega)
    obtain ⟨bl, hbe⟩ : ∃ bl, Go.Lib.bitLen n2 = bl := ⟨_, rfl⟩
    have hbe' : Go.Lib.bitLenAux 64 n2 = bl := hbe
    rw [hbe'] at hbl
    rw [hbe] at hbl64
    obtain ⟨hb1, hb2, hb3⟩ := hbl
    obtain ⟨s, hs⟩ : ∃ s, s = 64 - bl := ⟨_, rfl⟩
    have hT : 2 ^ bl * 2 ^ s = 18446744073709551616 := by rw [← Nat.pow_add, show bl + s = 64 by omega]
    have hT2 : 2 ^ (bl - 1) * 2 ^ s = 9223372036854775808 := by rw [← Nat.pow_add, show bl - 1 + s = 63 by omega]
    have hP : 0 < 2 ^ s := Nat.two_pow_pos s
    have hT0 : 0 < 2 ^ bl := Nat.two_pow_pos bl
    have hx2a : n2 * 2 ^ s < 18446744073709551616 := by rw [← hT]; exact Nat.mul_lt_mul_of_pos_right hb3 hP
    have hx2b : 9223372036854775808 ≤ n2 * 2 ^ s := by rw [← hT2]; exact Nat.mul_le_mul_right _ hb2
    have hn0 : n0 * 2 ^ s + 2 ^ s ≤ n2 * 2 ^ s := by
      have : n0 + 1 ≤ n2 := by omega
      have := Nat.mul_le_mul_right (2 ^ s) this
      rwa [Nat.add_mul, Nat.one_mul] at this
    have hdv : n1 / 2 ^ bl < 2 ^ s := by
      apply Nat.div_lt_of_lt_mul; rw [hT]; omega
    have hL : n1 * 2 ^ s / 18446744073709551616 = n1 / 2 ^ bl := by
      rw [← hT]; exact Nat.mul_div_mul_right _ _ hP
    have hLd := Nat.div_add_mod (n1 * 2 ^ s) 18446744073709551616
    rw [hL] at hLd
    have hLm : n1 * 2 ^ s % 18446744073709551616 < 18446744073709551616 := Nat.mod_lt _ (by decide)
    generalize hLe : n1 * 2 ^ s % 18446744073709551616 = L at *
    have hA : (n0 * 18446744073709551616 + n1) * 2 ^ s = (n0 * 2 ^ s + n1 / 2 ^ bl) * 18446744073709551616 + L := by
      rw [Nat.add_mul, ← hLd, Nat.mul_right_comm]; omega
    have f1 : bits_LeadingZeros64.f (n2 : Int) = some (s : Int) := by
      unfold bits_LeadingZeros64.f
      rw [if_pos ⟨by omega, by omega⟩, Int.toNat_natCast, hbe]
      congr 1; omega
    have ws : IntKind.u64.wrap (s : Int) = s := w64 (by omega) (by omega)
    have ws2 : IntKind.u64.wrap (64 - (s : Int)) = (bl : Int) := by rw [w64 (by omega) (by omega)]; omega
    have sh : ∀ x : Nat, shl .u64 (x : Int) (s : Int) = (((x * 2 ^ s) % 18446744073709551616 : Nat) : Int) := fun x => by
      unfold shl
      rw [Int.toNat_natCast, Nat.min_eq_left (by show s ≤ 64; omega), w64m, cast_shl]
      generalize x * 2 ^ s = z
      omega
    have sr : shr .u64 (n1 : Int) (bl : Int) = ((n1 / 2 ^ bl : Nat) : Int) := by
      unfold shr
      rw [Int.toNat_natCast, Nat.min_eq_left (by show bl ≤ 64; omega), cast_shr]
    have e2 : shl .u64 (n2 : Int) (s : Int) = ((n2 * 2 ^ s : Nat) : Int) := by rw [sh, Nat.mod_eq_of_lt hx2a]
    have e0 : shl .u64 (n0 : Int) (s : Int) = ((n0 * 2 ^ s : Nat) : Int) := by rw [sh, Nat.mod_eq_of_lt (by omega)]
    have e1 : shl .u64 (n1 : Int) (s : Int) = (L : Int) := by rw [sh, hLe]
    have eor : Go.bits .or .u64 ((n0 * 2 ^ s : Nat) : Int) ((n1 / 2 ^ bl : Nat) : Int) = ((n0 * 2 ^ s + n1 / 2 ^ bl : Nat) : Int) := by
      have := or_shl n0 (n1 / 2 ^ bl) s hdv (by rw [Nat.mul_comm]; omega)
      rwa [Nat.mul_comm] at this
    have hun : n0 * 2 ^ s + n1 / 2 ^ bl < n2 * 2 ^ s := by omega
    have hfin : (n0 * 18446744073709551616 + n1) / n2 = ((n0 * 2 ^ s + n1 / 2 ^ bl) * 18446744073709551616 + L) / (n2 * 2 ^ s) := by
      rw [← hA, Nat.mul_div_mul_right _ _ hP]
    have hfin2 : (n0 * 18446744073709551616 + n1) % n2 = ((n0 * 2 ^ s + n1 / 2 ^ bl) * 18446744073709551616 + L) % (n2 * 2 ^ s) / 2 ^ s := by
      rw [← hA, Nat.mul_mod_mul_right, Nat.mul_div_cancel _ hP]
    obtain ⟨X, hX⟩ : ∃ X, X = n2 * 2 ^ s := ⟨_, rfl⟩
    obtain ⟨U, hU⟩ : ∃ U, U = n0 * 2 ^ s + n1 / 2 ^ bl := ⟨_, rfl⟩
    rw [← hX] at e2 hx2a hx2b hun hfin hfin2
    rw [← hU] at eor hun hfin hfin2
    rw [hX] at e2
    rw [← hX] at e2
    have x9a : 2147483648 ≤ X / 4294967296 := by omega
    have x9b : X / 4294967296 < 4294967296 := by omega
    clear hbl64 hb1 hb2 hb3 hT hT2 hL hLd hA hLe
    have eA : ∀ k, bits_Div64.f k n0 n1 n2 = bits_Div64.l0 k (X : Int) s ((X : Int) / 4294967296) ((X : Int) % 4294967296) (U : Int) ((L : Int) / 4294967296) ((L : Int) % 4294967296) ((U : Int) / ((X : Int) / 4294967296)) ((U : Int) % ((X : Int) / 4294967296)) := by
      intro k
      unfold bits_Div64.f
      rw [if_neg (by omega), if_neg (by omega), if_neg hz, f1]
      simp only [Option.bind_some, ws, ws2]
      rw [if_pos (by omega), if_pos (by omega), e2, e0, e1, sr, eor, if_neg (by omega), and32 _ (by omega) (by omega), and32 _ (by omega) (by omega)]
      have hq0 : 0 ≤ (U : Int) / ((X : Int) / 4294967296) := Int.ediv_nonneg (by omega) (by omega)
      have hq1 : (U : Int) / ((X : Int) / 4294967296) ≤ U := Int.ediv_le_self _ (by omega)
      have et : Int.tdiv (U : Int) ((X : Int) / 4294967296) = (U : Int) / ((X : Int) / 4294967296) := Int.tdiv_eq_ediv_of_nonneg (by omega)
      rw [et, w64 hq0 (by omega)]
      have hre := Int.mul_ediv_add_emod (U : Int) ((X : Int) / 4294967296)
      have hr0 := Int.emod_nonneg (U : Int) (b := (X : Int) / 4294967296) (by omega)
      have hr1 := Int.emod_lt_of_pos (U : Int) (show 0 < (X : Int) / 4294967296 by omega)
      have er : IntKind.u64.wrap ((U : Int) - IntKind.u64.wrap ((U : Int) / ((X : Int) / 4294967296) * ((X : Int) / 4294967296))) = (U : Int) % ((X : Int) / 4294967296) := by
        rw [w64m, w64m]
        rw [Int.mul_comm] at hre
        generalize (U : Int) / ((X : Int) / 4294967296) * ((X : Int) / 4294967296) = p at *
        generalize (U : Int) % ((X : Int) / 4294967296) = q at *
        omega
      rw [er]
    obtain ⟨g9, g9b, g10, g10b, hy⟩ := nat_partsX X hx2b hx2a
    obtain ⟨g13, g13b, g14, g14b⟩ := nat_partsL L hLm
    have gU : (U : Int) < X := by exact_mod_cast hun
    have gU0 : (0 : Int) ≤ U := Int.natCast_nonneg U
    have h9p : 0 < (X : Int) / 4294967296 := by clear eA; omega
    have hre := Int.mul_ediv_add_emod (U : Int) ((X : Int) / 4294967296)
    have hr0 := Int.emod_nonneg (U : Int) (b := (X : Int) / 4294967296) (by omega)
    have hr1 := Int.emod_lt_of_pos (U : Int) h9p
    have hqr : (U : Int) / ((X : Int) / 4294967296) * ((X : Int) / 4294967296) + (U : Int) % ((X : Int) / 4294967296) = U := by rw [Int.mul_comm]; exact hre
    have hq1 : (U : Int) / ((X : Int) / 4294967296) ≤ 4294967297 := by
      have : (U : Int) / ((X : Int) / 4294967296) < 4294967298 := by
        apply Int.ediv_lt_of_lt_mul h9p
        omega
      omega
    have hge : ((U : Int) * 4294967296 + (L : Int) / 4294967296) / X ≤ (U : Int) / ((X : Int) / 4294967296) := by
      have hX0 : (0 : Int) < X := by omega
      apply Int.le_ediv_of_mul_le h9p
      have hQQ0 : 0 ≤ ((U : Int) * 4294967296 + (L : Int) / 4294967296) / X := Int.ediv_nonneg (by omega) (by omega)
      have h1 : ((U : Int) * 4294967296 + (L : Int) / 4294967296) / X * X ≤ (U : Int) * 4294967296 + (L : Int) / 4294967296 := Int.ediv_mul_le _ (by omega)
      generalize ((U : Int) * 4294967296 + (L : Int) / 4294967296) / X = Q at *
      have e : Q * X = (Q * ((X : Int) / 4294967296)) * 4294967296 + Q * ((X : Int) % 4294967296) := by
        conv => lhs; rw [hy, Int.mul_add, ← Int.mul_assoc]
      rw [e] at h1
      have h2' : 0 ≤ Q * ((X : Int) % 4294967296) := Int.mul_nonneg hQQ0 (by omega)
      generalize Q * ((X : Int) % 4294967296) = p1 at *
      generalize Q * ((X : Int) / 4294967296) = p2 at *
      omega
    obtain ⟨m, hm⟩ := l0_ok (X : Int) s ((X : Int) / 4294967296) ((X : Int) % 4294967296) U ((L : Int) / 4294967296) ((L : Int) % 4294967296) h9p g9b g10 g10b hy g13 g13b gU0 gU ((U : Int) / ((X : Int) / 4294967296) - ((U : Int) * 4294967296 + (L : Int) / 4294967296) / X).toNat _ _ (toNat_dist _ _ hge) hr0 (Int.lt_trans hr1 g9b) hqr hq1
    obtain ⟨k, hk⟩ := j2_ok (X : Int) s ((X : Int) / 4294967296) ((X : Int) % 4294967296) U ((L : Int) / 4294967296) ((L : Int) % 4294967296) (Int.natCast_nonneg s) g9 g9b g10 g10b hy g13 g13b gU0 gU g14 g14b
    refine ⟨k + m, ?_⟩
    rw [eA, hm, hk]
    have eN : (((U : Int) * 4294967296 + (L : Int) / 4294967296) * 4294967296 + (L : Int) % 4294967296) = ((U * 18446744073709551616 + L : Nat) : Int) := by
      rw [Int.natCast_add, Int.natCast_mul]; omega
    rw [eN]
    have g1 : ((n0 : Int) * 18446744073709551616 + n1) / n2 = (((n0 * 18446744073709551616 + n1) / n2 : Nat) : Int) := by rw [Int.natCast_ediv, Int.natCast_add, Int.natCast_mul]; rfl
    have g2 : ((n0 : Int) * 18446744073709551616 + n1) % n2 = (((n0 * 18446744073709551616 + n1) % n2 : Nat) : Int) := by rw [Int.natCast_emod, Int.natCast_add, Int.natCast_mul]; rfl
    rw [g1, g2, hfin, hfin2]
    congr 2
    unfold shr
    rw [Int.toNat_natCast, Nat.min_eq_left (by show s ≤ 64; omega), ← Int.natCast_emod, cast_shr]
end Go.Proofs.Ytncnhhnbjmpomaa.Q
