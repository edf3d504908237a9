import Ieee.Arith
namespace Fl
open Ieee
set_option linter.unusedVariables false
/-- rungs to a binade -/
def B : Nat := 4503599627370496
theorem B_pos : 0 < B := by decide
theorem binade_eq : double.binade = B := rfl
theorem sw_eq : double.signWeight = 9223372036854775808 := rfl
def inf : Nat := 2047 * B
theorem inf_eq : double.infRung = inf := rfl
theorem lp_eq : double.leastPlace = -1074 := rfl
/-- what a rung is worth, in units of the least place -/
def rm (r : Nat) : Nat := if r < B then r else B + r % B
def rp (r : Nat) : Nat := if r < B then 0 else r / B - 1
def rv (r : Nat) : Nat := rm r * 2 ^ rp r
theorem rv_small {r : Nat} (h : r < B) : rv r = r := by simp [rv, rm, rp, h]
theorem rv_big {r : Nat} (h : ¬ r < B) : rv r = (B + r % B) * 2 ^ (r / B - 1) := by simp [rv, rm, rp, h]
theorem div_pos' {r : Nat} (h : ¬ r < B) : 1 ≤ r / B := (Nat.le_div_iff_mul_le B_pos).2 (by omega)
theorem rv_lo {r : Nat} (h : ¬ r < B) : B * 2 ^ (r / B - 1) ≤ rv r := by
  rw [rv_big h]; exact Nat.mul_le_mul_right _ (Nat.le_add_right _ _)
theorem rv_hi {r : Nat} (h : ¬ r < B) : rv r < B * 2 ^ (r / B) := by
  rw [rv_big h]
  have h1 := Nat.mod_lt r B_pos
  have h2 := div_pos' h
  obtain ⟨q, hq⟩ : ∃ q, r / B = q + 1 := ⟨r / B - 1, by omega⟩
  rw [hq, Nat.add_sub_cancel, Nat.pow_succ]
  have : (B + r % B) * 2 ^ q < (B * 2) * 2 ^ q := Nat.mul_lt_mul_of_pos_right (by omega) (Nat.two_pow_pos q)
  calc (B + r % B) * 2 ^ q < (B * 2) * 2 ^ q := this
    _ = B * (2 ^ q * 2) := by rw [Nat.mul_assoc, Nat.mul_comm 2]
theorem rv_mono {r s : Nat} (h : r < s) : rv r < rv s := by
  by_cases h1 : s < B
  · rw [rv_small h1, rv_small (by omega)]; exact h
  · by_cases h2 : r < B
    · rw [rv_small h2]
      have := rv_lo h1
      have h3 : B * 1 ≤ B * 2 ^ (s / B - 1) := Nat.mul_le_mul_left _ (Nat.two_pow_pos _)
      omega
    · rcases Nat.lt_or_ge (r / B) (s / B) with hq | hq
      · have a := rv_hi h2
        have b := rv_lo h1
        have c : 2 ^ (r / B) ≤ 2 ^ (s / B - 1) := Nat.pow_le_pow_right (by decide) (by omega)
        have d := Nat.mul_le_mul_left B c
        omega
      · have hq2 : r / B = s / B := Nat.le_antisymm (Nat.div_le_div_right (by omega)) hq
        rw [rv_big h1, rv_big h2, hq2]
        refine Nat.mul_lt_mul_of_pos_right ?_ (Nat.two_pow_pos _)
        have e1 := Nat.div_add_mod r B
        have e2 := Nat.div_add_mod s B
        rw [hq2] at e1
        omega
theorem rv_inj {r s : Nat} (h : rv r = rv s) : r = s := by
  rcases Nat.lt_trichotomy r s with h1 | h1 | h1
  · have := rv_mono h1; omega
  · exact h1
  · have := rv_mono h1; omega
theorem rv_le {r s : Nat} : rv r ≤ rv s ↔ r ≤ s := by
  constructor
  · intro h
    rcases Nat.lt_or_ge s r with h1 | h1
    · have := rv_mono h1; omega
    · exact h1
  · intro h
    rcases Nat.lt_or_ge r s with h1 | h1
    · exact Nat.le_of_lt (rv_mono h1)
    · rw [show r = s by omega]; exact Nat.le_refl _
theorem rv_zero : rv 0 = 0 := by rw [rv_small (by decide)]
/-- a word: its sign, its rung -/
def sg (b : Nat) : Bool := b / 9223372036854775808 % 2 == 1
def rg (b : Nat) : Nat := b % 9223372036854775808
theorem read_eq (b : Nat) : double.read b = if rg b < B then .number (sg b) (rg b) (-1074) else if rg b < inf then .number (sg b) (B + rg b % B) (-1074 + ((rg b / B - 1 : Nat) : Int)) else if rg b = inf then .infinity (sg b) else .nan (sg b) (rg b - inf) := rfl
theorem read_fin {b : Nat} (h : rg b < inf) : double.read b = .number (sg b) (rm (rg b)) (-1074 + (rp (rg b) : Int)) := by
  rw [read_eq]
  unfold rm rp
  by_cases h1 : rg b < B
  · rw [if_pos h1, if_pos h1, if_pos h1]; rfl
  · rw [if_neg h1, if_neg h1, if_neg h1, if_pos h]
theorem B_inf : B < inf := by decide
theorem read_inf {b : Nat} (h : rg b = inf) : double.read b = .infinity (sg b) := by
  have := B_inf
  rw [read_eq, if_neg (by omega), if_neg (by omega), if_pos h]
theorem read_nan {b : Nat} (h : inf < rg b) : double.read b = .nan (sg b) (rg b - inf) := by
  have := B_inf
  rw [read_eq, if_neg (by omega), if_neg (by omega), if_neg (by omega)]
/-- what a word is worth -/
def sv (b : Nat) : Int := if sg b then -(rv (rg b) : Int) else (rv (rg b) : Int)
theorem signed_eq (s : Bool) (m k : Nat) : signed s m k = (if s then -1 else 1) * ((m * 2 ^ k : Nat) : Int) := by
  unfold signed; rw [Nat.shiftLeft_eq]
  cases s <;> simp
theorem sv_eq (b : Nat) : sv b = (if sg b then -1 else 1) * (rv (rg b) : Int) := by
  unfold sv; cases sg b <;> simp
theorem compare_mul (a b : Int) (k : Nat) : compare (a * ((2 ^ k : Nat) : Int)) (b * ((2 ^ k : Nat) : Int)) = compare a b := by
  have hk : (0 : Int) < ((2 ^ k : Nat) : Int) := by have := Nat.two_pow_pos k; omega
  simp only [compare, compareOfLessAndEq]
  have h1 : a * ((2 ^ k : Nat) : Int) < b * ((2 ^ k : Nat) : Int) ↔ a < b := Int.mul_lt_mul_right hk
  have h2 : a * ((2 ^ k : Nat) : Int) = b * ((2 ^ k : Nat) : Int) ↔ a = b := Int.mul_eq_mul_right_iff (by omega)
  simp only [h1, h2]
/-- the order of two data: by what they are worth -/
theorem order_num (s t : Bool) (m n i j : Nat) : Datum.order (.number s m (-1074 + (i : Int))) (.number t n (-1074 + (j : Int))) = some (compare ((if s then -1 else 1) * ((m * 2 ^ i : Nat) : Int)) ((if t then -1 else 1) * ((n * 2 ^ j : Nat) : Int))) := by
  obtain ⟨k, hk⟩ : ∃ k : Nat, k = min i j := ⟨_, rfl⟩
  have hb : min (-1074 + (i : Int)) (-1074 + (j : Int)) = -1074 + (k : Int) := by omega
  have ei : (-1074 + (i : Int) - (-1074 + (k : Int))).toNat = i - k := by omega
  have ej : (-1074 + (j : Int) - (-1074 + (k : Int))).toNat = j - k := by omega
  simp only [Datum.order, hb, ei, ej, signed_eq]
  rw [← compare_mul _ _ k]
  have h1 : m * 2 ^ i = m * 2 ^ (i - k) * 2 ^ k := by rw [Nat.mul_assoc, ← Nat.pow_add, show i - k + k = i by omega]
  have h2 : n * 2 ^ j = n * 2 ^ (j - k) * 2 ^ k := by rw [Nat.mul_assoc, ← Nat.pow_add, show j - k + k = j by omega]
  have e1 : ((m * 2 ^ i : Nat) : Int) = ((m * 2 ^ (i - k) : Nat) : Int) * ((2 ^ k : Nat) : Int) := by rw [h1, Int.natCast_mul]
  have e2 : ((n * 2 ^ j : Nat) : Int) = ((n * 2 ^ (j - k) : Nat) : Int) * ((2 ^ k : Nat) : Int) := by rw [h2, Int.natCast_mul]
  rw [e1, e2, ← Int.mul_assoc, ← Int.mul_assoc]
theorem order_eq {a b : Nat} (ha : rg a ≤ inf) (hb : rg b ≤ inf) : double.order a b = some (compare (sv a) (sv b)) := by
  unfold Format.order
  have cinf : ∀ {x y : Int}, x < y → compare x y = .lt := fun h => by simp [compare, compareOfLessAndEq, h]
  have cinf2 : ∀ {x y : Int}, y < x → compare x y = .gt := fun {x y} h => by simp [compare, compareOfLessAndEq, show ¬ x < y by omega, show ¬ x = y by omega]
  have cinf3 : ∀ {x y : Int}, x = y → compare x y = .eq := fun {x y} h => by simp [compare, compareOfLessAndEq, h]
  by_cases h1 : rg a < inf
  · by_cases h2 : rg b < inf
    · rw [read_fin h1, read_fin h2, order_num, sv_eq, sv_eq]; rfl
    · have h2 : rg b = inf := by omega
      rw [read_fin h1, read_inf h2]
      have hm := rv_mono h1
      rw [sv_eq a, sv_eq b, h2]
      simp only [Datum.order]
      cases sg b
      · rw [if_neg (by decide), cinf]; cases sg a <;> simp <;> omega
      · rw [if_pos rfl, cinf2]; cases sg a <;> simp <;> omega
  · have h1 : rg a = inf := by omega
    by_cases h2 : rg b < inf
    · rw [read_inf h1, read_fin h2]
      have hm := rv_mono h2
      rw [sv_eq a, sv_eq b, h1]
      simp only [Datum.order]
      cases sg a
      · rw [if_neg (by decide), cinf2]; cases sg b <;> simp <;> omega
      · rw [if_pos rfl, cinf]; cases sg b <;> simp <;> omega
    · have h2 : rg b = inf := by omega
      have hp : 0 < rv inf := by have := rv_mono (show 0 < inf by decide); omega
      rw [read_inf h1, read_inf h2, sv_eq a, sv_eq b, h1, h2]
      simp only [Datum.order]
      cases sg a <;> cases sg b
      · rw [cinf3 rfl]; rfl
      · rw [cinf2 (by simp; omega)]; rfl
      · rw [cinf (by simp; omega)]; rfl
      · rw [cinf3 rfl]; rfl
theorem order_nan {a b : Nat} (h : inf < rg a ∨ inf < rg b) : double.order a b = none := by
  unfold Format.order
  rcases h with h | h
  · rw [read_nan h]; rfl
  · rw [read_nan h]
    cases double.read a <;> rfl
/-! rounding -/
theorem cut_parts (n drop : Nat) (s : Bool) : ∃ g, (g = drop ∨ (n.log2 + 2 ≤ drop ∧ g = n.log2 + 2)) ∧ Toward.even.cut s n drop = n / 2 ^ g + (decide (2 ^ g < 2 * (n % 2 ^ g)) || (2 ^ g == 2 * (n % 2 ^ g) && n / 2 ^ g % 2 == 1)).toNat := by
  refine ⟨min drop (n.log2 + 2), by omega, ?_⟩
  unfold Toward.cut
  simp only [Nat.shiftLeft_eq, Nat.one_mul]
theorem lt_two_log (n : Nat) : n < 2 ^ (n.log2 + 1) := Nat.lt_log2_self
theorem cut_lo (s : Bool) (n drop k : Nat) (h : k * 2 ^ drop ≤ n) : k ≤ Toward.even.cut s n drop := by
  obtain ⟨g, hg, e⟩ := cut_parts n drop s
  rw [e]
  rcases hg with rfl | ⟨h1, rfl⟩
  · have := (Nat.le_div_iff_mul_le (Nat.two_pow_pos g)).2 h
    omega
  · have h2 : k = 0 := by
      rcases Nat.eq_zero_or_pos k with h0 | h0
      · exact h0
      · exfalso
        have h3 : 2 ^ (n.log2 + 1) ≤ 2 ^ drop := Nat.pow_le_pow_right (by decide) (by omega)
        have h4 : 1 * 2 ^ drop ≤ k * 2 ^ drop := Nat.mul_le_mul_right _ h0
        have := lt_two_log n
        omega
    omega
theorem cut_hi (s : Bool) (n drop k : Nat) (h : n ≤ k * 2 ^ drop) : Toward.even.cut s n drop ≤ k := by
  obtain ⟨g, hg, e⟩ := cut_parts n drop s
  rw [e]
  rcases hg with rfl | ⟨h1, rfl⟩
  · have hp := Nat.two_pow_pos g
    have hd := Nat.div_add_mod n (2 ^ g)
    have hle : n / 2 ^ g ≤ k := by
      have := Nat.div_le_div_right (c := 2 ^ g) h
      rwa [Nat.mul_div_cancel _ hp] at this
    rcases Nat.eq_zero_or_pos (n % 2 ^ g) with h0 | h0
    · have : (decide (2 ^ g < 2 * (n % 2 ^ g)) || (2 ^ g == 2 * (n % 2 ^ g) && n / 2 ^ g % 2 == 1)) = false := by
        rw [h0]; simp
      rw [this]; simpa using hle
    · have hlt : n / 2 ^ g < k := by
        rcases Nat.lt_or_ge (n / 2 ^ g) k with h5 | h5
        · exact h5
        · exfalso
          have h6 : k * 2 ^ g ≤ n / 2 ^ g * 2 ^ g := Nat.mul_le_mul_right _ h5
          rw [Nat.mul_comm (n / 2 ^ g)] at h6
          omega
      have := Bool.toNat_le (decide (2 ^ g < 2 * (n % 2 ^ g)) || (2 ^ g == 2 * (n % 2 ^ g) && n / 2 ^ g % 2 == 1))
      omega
  · have hl := lt_two_log n
    have hp : 2 ^ (n.log2 + 2) = 2 * 2 ^ (n.log2 + 1) := by rw [Nat.pow_succ 2 (n.log2 + 1), Nat.mul_comm]
    have h2 : n / 2 ^ (n.log2 + 2) = 0 := Nat.div_eq_of_lt (by omega)
    have h3 : n % 2 ^ (n.log2 + 2) = n := Nat.mod_eq_of_lt (by omega)
    have : (decide (2 ^ (n.log2 + 2) < 2 * (n % 2 ^ (n.log2 + 2))) || (2 ^ (n.log2 + 2) == 2 * (n % 2 ^ (n.log2 + 2)) && n / 2 ^ (n.log2 + 2) % 2 == 1)) = false := by
      rw [h3, h2]; simp; omega
    rw [this, h2]; simp
/-- the rung that is nearest -/
def nr (mag : Nat) (place : Int) : Nat :=
  min ((max (place + mag.log2 - 52) (-1074) - (-1074)).toNat * B + Toward.even.cut false (mag <<< (place - max (place + mag.log2 - 52) (-1074)).toNat) (max (place + mag.log2 - 52) (-1074) - place).toNat) inf
theorem cut_sign (s : Bool) (n d : Nat) : Toward.even.cut s n d = Toward.even.cut false n d := rfl
theorem nearest_eq (s : Bool) (mag : Nat) (place : Int) (h : mag ≠ 0) : double.nearest s mag place = double.word s (nr mag place) := by
  unfold Format.nearest
  rw [if_neg h]
  rfl
theorem rv_at (L k : Nat) (h2 : k ≤ 2 * B) (h : B ≤ k ∨ L = 0) : rv (L * B + k) = k * 2 ^ L := by
  have hB := B_pos
  rcases Nat.lt_or_ge k B with h1 | h1
  · have hL : L = 0 := by omega
    subst hL
    rw [Nat.zero_mul, Nat.zero_add, rv_small h1, Nat.pow_zero, Nat.mul_one]
  · have hnb : ¬ (L * B + k < B) := by omega
    rcases Nat.lt_or_ge k (2 * B) with h3 | h3
    · have e : L * B + k = (L + 1) * B + (k - B) := by rw [Nat.add_mul]; omega
      have hd : (L * B + k) / B = L + 1 := by rw [e, Nat.add_comm, Nat.add_mul_div_right _ _ hB, Nat.div_eq_of_lt (by omega)]; omega
      have hm : (L * B + k) % B = k - B := by rw [e, Nat.add_comm, Nat.add_mul_mod_self_right, Nat.mod_eq_of_lt (by omega)]
      rw [rv_big hnb, hd, hm, Nat.add_sub_cancel, show B + (k - B) = k by omega]
    · have hk : k = 2 * B := by omega
      have e : L * B + k = (L + 2) * B := by rw [Nat.add_mul]; omega
      have hd : (L * B + k) / B = L + 2 := by rw [e, Nat.mul_div_cancel _ hB]
      have hm : (L * B + k) % B = 0 := by rw [e, Nat.mul_mod_left]
      rw [rv_big hnb, hd, hm, hk, show L + 2 - 1 = L + 1 by omega, Nat.pow_succ, Nat.add_zero, Nat.mul_comm 2 B, Nat.mul_assoc, Nat.mul_comm (2 ^ L) 2]
/-- the rounding, taken apart -/
structure Rd (mag : Nat) (place : Int) (a d L K n e : Nat) : Prop where
  hn : n * 2 ^ (d + L) = mag * 2 ^ a * 2 ^ e
  hK : K = Toward.even.cut false n e
  hlo : L = 0 ∨ B * 2 ^ e ≤ n
  hhi : n ≤ 2 * B * 2 ^ e
  hr : nr mag place = min (L * B + K) inf
theorem log_le (mag : Nat) (h : mag ≠ 0) : 2 ^ mag.log2 ≤ mag := Nat.log2_self_le h
theorem rd_of (mag : Nat) (place : Int) (h : mag ≠ 0) : ∃ L K n e, Rd mag place (place + 1074).toNat (-(place + 1074)).toNat L K n e := by
  obtain ⟨last, hlast⟩ : ∃ last, last = max (place + (mag.log2 : Int) - 52) (-1074) := ⟨_, rfl⟩
  have h53 : 2 * B = 2 ^ 53 := by decide
  have h52 : B = 2 ^ 52 := by decide
  refine ⟨(last - (-1074)).toNat, Toward.even.cut false (mag * 2 ^ (place - last).toNat) (last - place).toNat, mag * 2 ^ (place - last).toNat, (last - place).toNat, ?_, rfl, ?_, ?_, ?_⟩
  · rw [Nat.mul_assoc, ← Nat.pow_add, Nat.mul_assoc, ← Nat.pow_add]
    congr 2; omega
  · by_cases hL : last = -1074
    · left; omega
    · right
      have e1 : last = place + (mag.log2 : Int) - 52 := by omega
      have h1 := log_le mag h
      rw [h52, ← Nat.pow_add]
      refine Nat.le_trans ?_ (Nat.mul_le_mul_right _ h1)
      rw [← Nat.pow_add]
      exact Nat.pow_le_pow_right (by decide) (by omega)
  · have h1 := lt_two_log mag
    rw [h53, ← Nat.pow_add]
    refine Nat.le_trans (Nat.mul_le_mul_right _ (Nat.le_of_lt h1)) ?_
    rw [← Nat.pow_add]
    exact Nat.pow_le_pow_right (by decide) (by omega)
  · unfold nr
    rw [← hlast, Nat.shiftLeft_eq]
section
variable {mag : Nat} {place : Int} {a d L K n e : Nat}
theorem Rd.K2 (h : Rd mag place a d L K n e) : K ≤ 2 * B := by rw [h.hK]; exact cut_hi _ _ _ _ h.hhi
theorem Rd.K1 (h : Rd mag place a d L K n e) : B ≤ K ∨ L = 0 := by
  rcases h.hlo with h1 | h1
  · exact .inr h1
  · left; rw [h.hK]; exact cut_lo _ _ _ _ h1
theorem Rd.rvR (h : Rd mag place a d L K n e) : rv (L * B + K) = K * 2 ^ L := rv_at L K h.K2 h.K1
theorem Rd.lo (h : Rd mag place a d L K n e) (c : Nat) (hc : rv c * 2 ^ d ≤ mag * 2 ^ a) : c ≤ L * B + K := by
  rcases Nat.lt_or_ge (L * B + K) c with h1 | h1
  · exfalso
    have hm := rv_mono h1
    rw [h.rvR] at hm
    -- c is a whole number of steps
    obtain ⟨k, hk⟩ : ∃ k, rv c = k * 2 ^ L := by
      rcases h.K1 with h2 | h2
      · have hnb : ¬ c < B := by have := Nat.mul_le_mul_right B (Nat.zero_le L); omega
        have hd : L + 1 ≤ c / B := (Nat.le_div_iff_mul_le B_pos).2 (by rw [Nat.add_mul]; omega)
        refine ⟨(B + c % B) * 2 ^ (c / B - 1 - L), ?_⟩
        rw [rv_big hnb, Nat.mul_assoc, ← Nat.pow_add, show c / B - 1 - L + L = c / B - 1 by omega]
      · subst h2; exact ⟨rv c, by simp⟩
    rw [hk] at hm hc
    have hlt : K < k := Nat.lt_of_mul_lt_mul_right hm
    have h3 : k * 2 ^ e ≤ n := by
      have h4 : k * 2 ^ L * 2 ^ d * 2 ^ e ≤ n * 2 ^ (d + L) := by rw [h.hn]; exact Nat.mul_le_mul_right _ hc
      have h5 : k * 2 ^ L * 2 ^ d * 2 ^ e = k * 2 ^ e * 2 ^ (d + L) := by
        rw [Nat.pow_add]; simp only [Nat.mul_assoc, Nat.mul_left_comm, Nat.mul_comm]
      rw [h5] at h4
      exact Nat.le_of_mul_le_mul_right h4 (Nat.two_pow_pos _)
    have := cut_lo false n e k h3
    rw [← h.hK] at this
    omega
  · exact h1
theorem Rd.hi (h : Rd mag place a d L K n e) (c : Nat) (hc : mag * 2 ^ a ≤ rv c * 2 ^ d) : L * B + K ≤ c := by
  rcases Nat.lt_or_ge c (L * B + K) with h1 | h1
  · exfalso
    have hm := rv_mono h1
    rw [h.rvR] at hm
    have hcn : n * 2 ^ (d + L) ≤ rv c * 2 ^ d * 2 ^ e := by rw [h.hn]; exact Nat.mul_le_mul_right _ hc
    by_cases hb : L = 0 ∨ L + 1 ≤ c / B
    · obtain ⟨k, hk⟩ : ∃ k, rv c = k * 2 ^ L := by
        rcases hb with h2 | h2
        · subst h2; exact ⟨rv c, by simp⟩
        · have hnb : ¬ c < B := fun hlt => by rw [Nat.div_eq_of_lt hlt] at h2; omega
          refine ⟨(B + c % B) * 2 ^ (c / B - 1 - L), ?_⟩
          rw [rv_big hnb, Nat.mul_assoc, ← Nat.pow_add, show c / B - 1 - L + L = c / B - 1 by omega]
      rw [hk] at hm hcn
      have hlt : k < K := Nat.lt_of_mul_lt_mul_right hm
      have h3 : n ≤ k * 2 ^ e := by
        have h5 : k * 2 ^ L * 2 ^ d * 2 ^ e = k * 2 ^ e * 2 ^ (d + L) := by
          rw [Nat.pow_add]; simp only [Nat.mul_assoc, Nat.mul_left_comm, Nat.mul_comm]
        rw [h5] at hcn
        exact Nat.le_of_mul_le_mul_right hcn (Nat.two_pow_pos _)
      have := cut_hi false n e k h3
      rw [← h.hK] at this
      omega
    · have hL : L ≠ 0 := fun h0 => hb (.inl h0)
      have hq : c / B ≤ L := by
        rcases Nat.lt_or_ge (c / B) (L + 1) with h2 | h2
        · omega
        · exact absurd (.inr h2) hb
      have hv : rv c < B * 2 ^ L := by
        by_cases hs : c < B
        · rw [rv_small hs]
          have : B * 1 ≤ B * 2 ^ L := Nat.mul_le_mul_left _ (Nat.two_pow_pos _)
          omega
        · have h2 := rv_hi hs
          have h3 : 2 ^ (c / B) ≤ 2 ^ L := Nat.pow_le_pow_right (by decide) hq
          have := Nat.mul_le_mul_left B h3
          omega
      have hlo := h.hlo.resolve_left hL
      have h4 : B * 2 ^ e * 2 ^ (d + L) ≤ n * 2 ^ (d + L) := Nat.mul_le_mul_right _ hlo
      have h5 : rv c * 2 ^ d * 2 ^ e < B * 2 ^ e * 2 ^ (d + L) := by
        have := Nat.mul_lt_mul_of_pos_right hv (Nat.two_pow_pos (d + e))
        rw [Nat.mul_assoc, ← Nat.pow_add]
        calc rv c * 2 ^ (d + e) < B * 2 ^ L * 2 ^ (d + e) := this
          _ = B * 2 ^ e * 2 ^ (d + L) := by
            rw [Nat.mul_assoc, Nat.mul_assoc, ← Nat.pow_add, ← Nat.pow_add, show L + (d + e) = e + (d + L) by omega]
      omega
  · exact h1
end
/-- rounding rises: from below -/
theorem nr_lo (mag : Nat) (place : Int) (h : mag ≠ 0) (c : Nat) (hci : c ≤ inf) (hc : rv c * 2 ^ (-(place + 1074)).toNat ≤ mag * 2 ^ (place + 1074).toNat) : c ≤ nr mag place := by
  obtain ⟨L, K, n, e, hR⟩ := rd_of mag place h
  rw [hR.hr]
  have := hR.lo c hc
  omega
/-- rounding rises: from above -/
theorem nr_hi (mag : Nat) (place : Int) (h : mag ≠ 0) (c : Nat) (hc : mag * 2 ^ (place + 1074).toNat ≤ rv c * 2 ^ (-(place + 1074)).toNat) : nr mag place ≤ c := by
  obtain ⟨L, K, n, e, hR⟩ := rd_of mag place h
  rw [hR.hr]
  have := hR.hi c hc
  omega
/-- what is a rung's worth is rounded to that rung -/
theorem nr_exact (mag : Nat) (place : Int) (h : mag ≠ 0) (c : Nat) (hci : c ≤ inf) (hc : mag * 2 ^ (place + 1074).toNat = rv c * 2 ^ (-(place + 1074)).toNat) : nr mag place = c :=
  Nat.le_antisymm (nr_hi mag place h c (by omega)) (nr_lo mag place h c hci (by omega))
theorem nr_inf (mag : Nat) (place : Int) : nr mag place ≤ inf := Nat.min_le_right _ _
/-! whole numbers, exact results -/
theorem cut_plain (s : Bool) (n drop : Nat) : Toward.even.cut s n drop = n / 2 ^ drop + (decide (2 ^ drop < 2 * (n % 2 ^ drop)) || (2 ^ drop == 2 * (n % 2 ^ drop) && n / 2 ^ drop % 2 == 1)).toNat := by
  obtain ⟨g, hg, e⟩ := cut_parts n drop s
  rw [e]
  rcases hg with rfl | ⟨h1, rfl⟩
  · rfl
  · have hl := lt_two_log n
    have hp : 2 ^ (n.log2 + 2) = 2 * 2 ^ (n.log2 + 1) := by rw [Nat.pow_succ 2 (n.log2 + 1), Nat.mul_comm]
    have hd : 2 ^ (n.log2 + 2) ≤ 2 ^ drop := Nat.pow_le_pow_right (by decide) h1
    have a1 : n / 2 ^ (n.log2 + 2) = 0 := Nat.div_eq_of_lt (by omega)
    have a2 : n % 2 ^ (n.log2 + 2) = n := Nat.mod_eq_of_lt (by omega)
    have a3 : n / 2 ^ drop = 0 := Nat.div_eq_of_lt (by omega)
    have a4 : n % 2 ^ drop = n := Nat.mod_eq_of_lt (by omega)
    rw [a1, a2, a3, a4]
    have b1 : decide (2 ^ (n.log2 + 2) < 2 * n) = false := by simp; omega
    have b2 : decide (2 ^ drop < 2 * n) = false := by simp; omega
    rw [b1, b2]; simp
theorem nr_ex (mag : Nat) (place : Int) (h : mag ≠ 0) (hm : mag < 2 ^ 53) (hp : -1074 ≤ place) (hp2 : place ≤ 900) : rv (nr mag place) = mag * 2 ^ (place + 1074).toNat ∧ nr mag place < inf := by
  obtain ⟨last, hlast⟩ : ∃ last, last = max (place + (mag.log2 : Int) - 52) (-1074) := ⟨_, rfl⟩
  have hlog : mag.log2 < 53 := (Nat.log2_lt h).2 hm
  have hle : last ≤ place := by omega
  have e0 : (last - place).toNat = 0 := by omega
  have hc : ∀ n, Toward.even.cut false n 0 = n := fun n => by
    rw [cut_plain]; simp [Nat.mod_one]
  obtain ⟨K, hK⟩ : ∃ K, K = mag * 2 ^ (place - last).toNat := ⟨_, rfl⟩
  obtain ⟨L, hL⟩ : ∃ L, L = (last - (-1074)).toNat := ⟨_, rfl⟩
  have hnr : nr mag place = min (L * B + K) inf := by
    unfold nr
    rw [← hlast, Nat.shiftLeft_eq, e0, hc, ← hK, ← hL]
  have h53 : 2 * B = 2 ^ 53 := by decide
  have h52 : B = 2 ^ 52 := by decide
  have hK2 : K ≤ 2 * B := by
    have h1 := lt_two_log mag
    rw [hK, h53]
    refine Nat.le_trans (Nat.mul_le_mul_right _ (Nat.le_of_lt h1)) ?_
    rw [← Nat.pow_add]
    exact Nat.pow_le_pow_right (by decide) (by omega)
  have hK1 : B ≤ K ∨ L = 0 := by
    by_cases hl : last = -1074
    · right; omega
    · left
      have h1 := log_le mag h
      rw [hK, h52]
      refine Nat.le_trans ?_ (Nat.mul_le_mul_right _ h1)
      rw [← Nat.pow_add]
      exact Nat.pow_le_pow_right (by decide) (by omega)
  have hrv := rv_at L K hK2 hK1
  have hLb : L ≤ 1974 := by omega
  have hlt : L * B + K < inf := by
    have h1 : L * B ≤ 1974 * B := Nat.mul_le_mul_right _ hLb
    have h2 : inf = 2047 * B := rfl
    have h3 := B_pos
    omega
  refine ⟨?_, by rw [hnr, Nat.min_eq_left (by omega)]; exact hlt⟩
  rw [hnr, Nat.min_eq_left (by omega), hrv, hK, Nat.mul_assoc, ← Nat.pow_add]
  congr 2; omega
theorem word_pos (r : Nat) : double.word false r = r := rfl
theorem word_neg (r : Nat) : double.word true r = 9223372036854775808 + r := rfl
theorem inf_lt : inf < 9223372036854775808 := by decide
theorem rg_pos {r : Nat} (h : r ≤ inf) : rg r = r := Nat.mod_eq_of_lt (by have := inf_lt; omega)
theorem sg_pos {r : Nat} (h : r ≤ inf) : sg r = false := by
  unfold sg; rw [Nat.div_eq_of_lt (by have := inf_lt; omega)]; rfl
theorem rg_word (s : Bool) {r : Nat} (h : r ≤ inf) : rg (double.word s r) = r := by
  have := inf_lt
  cases s
  · rw [word_pos]; exact rg_pos h
  · rw [word_neg]; unfold rg; rw [Nat.add_mod_left]; exact Nat.mod_eq_of_lt (by omega)
theorem sg_word (s : Bool) {r : Nat} (h : r ≤ inf) : sg (double.word s r) = s := by
  have := inf_lt
  cases s
  · rw [word_pos]; exact sg_pos h
  · rw [word_neg]; unfold sg
    rw [Nat.add_div_left _ (by decide), Nat.div_eq_of_lt (by omega)]; rfl
/-- a whole number's word -/
def fw (n : Nat) : Nat := if n = 0 then 0 else nr n 0
theorem fw_word (n : Nat) : double.nearest false n 0 = fw n := by
  unfold fw
  by_cases h : n = 0
  · subst h; rfl
  · rw [if_neg h, nearest_eq _ _ _ h, word_pos]
theorem fw_zero (n U x : Nat) (h0 : n = 0) : rv (if n = 0 then 0 else x) = n * U := by rw [if_pos h0, rv_zero, h0, Nat.zero_mul]
theorem fw_rv (n : Nat) (h : n < 2 ^ 53) : rv (fw n) = n * 2 ^ 1074 ∧ fw n < inf := by
  unfold fw
  by_cases h0 : n = 0
  · exact ⟨fw_zero n _ _ h0, by rw [if_pos h0]; decide⟩
  · rw [if_neg h0]
    have h9 := nr_ex n 0 h0 h (by decide) (by decide)
    rw [show ((0 : Int) + 1074).toNat = 1074 from rfl] at h9
    exact h9
theorem fw_lt (m n : Nat) (hm : m < 2 ^ 53) (hn : n < 2 ^ 53) : fw m < fw n ↔ m < n := by
  have a := (fw_rv m hm).1
  have b := (fw_rv n hn).1
  constructor
  · intro h
    have := rv_mono h
    rw [a, b] at this
    exact Nat.lt_of_mul_lt_mul_right this
  · intro h
    rcases Nat.lt_or_ge (fw m) (fw n) with h1 | h1
    · exact h1
    · exfalso
      have := rv_le.2 h1
      rw [a, b] at this
      have := Nat.le_of_mul_le_mul_right this (Nat.two_pow_pos 1074)
      omega
theorem fw_10000 : fw 10000 = 4666723172467343360 := by decide
theorem fw_2 : fw 2 = 4611686018427387904 := by decide
/-- what a finite word is worth, as a fraction of 2 ^ 1074 -/
theorem parts (r : Nat) (h : r < inf) : double.read r = .number false (rm r) (-1074 + (rp r : Int)) := by
  have h1 := read_fin (b := r) (by rw [rg_pos (by omega)]; exact h)
  rwa [rg_pos (by omega), sg_pos (by omega)] at h1
/-- rounded to the nearest whole number, of two to the even one -/
def rte (r : Nat) : Nat := rv r / 2 ^ 1074 + (decide (2 ^ 1074 < 2 * (rv r % 2 ^ 1074)) || (2 ^ 1074 == 2 * (rv r % 2 ^ 1074) && rv r / 2 ^ 1074 % 2 == 1)).toNat
theorem cut_scale (m p : Nat) (s : Bool) : Toward.even.cut s (m <<< (-1074 + (p : Int)).toNat) (-(-1074 + (p : Int))).toNat = (m * 2 ^ p) / 2 ^ 1074 + (decide (2 ^ 1074 < 2 * ((m * 2 ^ p) % 2 ^ 1074)) || (2 ^ 1074 == 2 * ((m * 2 ^ p) % 2 ^ 1074) && (m * 2 ^ p) / 2 ^ 1074 % 2 == 1)).toNat := by
  rw [cut_plain, Nat.shiftLeft_eq]
  by_cases h : p ≤ 1074
  · obtain ⟨q, hq⟩ : ∃ q, 1074 = q + p := ⟨1074 - p, by omega⟩
    have e1 : (-1074 + (p : Int)).toNat = 0 := by omega
    have e2 : (-(-1074 + (p : Int))).toNat = q := by omega
    rw [e1, e2, hq, Nat.pow_zero, Nat.mul_one, Nat.pow_add, Nat.mul_div_mul_right _ _ (Nat.two_pow_pos p), Nat.mul_mod_mul_right]
    have a1 : (2 ^ q * 2 ^ p < 2 * (m % 2 ^ q * 2 ^ p)) ↔ (2 ^ q < 2 * (m % 2 ^ q)) := by
      rw [← Nat.mul_assoc]; exact Nat.mul_lt_mul_right (Nat.two_pow_pos p)
    have a2 : (2 ^ q * 2 ^ p = 2 * (m % 2 ^ q * 2 ^ p)) ↔ (2 ^ q = 2 * (m % 2 ^ q)) := by
      rw [← Nat.mul_assoc]; exact Nat.mul_right_cancel_iff (Nat.two_pow_pos p)
    have b1 : decide (2 ^ q * 2 ^ p < 2 * (m % 2 ^ q * 2 ^ p)) = decide (2 ^ q < 2 * (m % 2 ^ q)) := by simp only [a1]
    have b2 : (2 ^ q * 2 ^ p == 2 * (m % 2 ^ q * 2 ^ p)) = (2 ^ q == 2 * (m % 2 ^ q)) := by
      rw [Bool.eq_iff_iff, beq_iff_eq, beq_iff_eq]; exact a2
    rw [b1, b2]
  · obtain ⟨q, hq⟩ : ∃ q, p = q + 1074 := ⟨p - 1074, by omega⟩
    have e1 : (-1074 + (p : Int)).toNat = q := by omega
    have e2 : (-(-1074 + (p : Int))).toNat = 0 := by omega
    rw [e1, e2, hq, Nat.pow_add, ← Nat.mul_assoc, Nat.mul_div_cancel _ (Nat.two_pow_pos 1074), Nat.mul_mod_left, Nat.pow_zero, Nat.div_one, Nat.mod_one]
    have hp := Nat.two_pow_pos 1074
    have b1 : decide (2 ^ 1074 < 2 * 0) = false := decide_eq_false (Nat.not_lt_zero _)
    have b2 : (2 ^ 1074 == 2 * 0) = false := beq_eq_false_iff_ne.2 (Nat.ne_of_gt hp)
    rw [b1, b2]; rfl
theorem rv_def (r : Nat) : rv r = rm r * 2 ^ rp r := rfl
theorem integral_eq (r : Nat) (h : r < inf) : double.write ((double.read r).integral .even) = fw (rte r) := by
  rw [parts r h]
  show double.write (.number false (Toward.even.cut false (rm r <<< (-1074 + (rp r : Int)).toNat) (-(-1074 + (rp r : Int))).toNat) 0) = _
  rw [cut_scale]
  exact fw_word _
theorem toInt_eq (r : Nat) (h : r < inf) : (double.read r).toInt .zero = some ((rv r / 2 ^ 1074 : Nat) : Int) := by
  rw [parts r h]
  have e : Toward.zero.cut false (rm r <<< (-1074 + (rp r : Int)).toNat) (-(-1074 + (rp r : Int))).toNat = rv r / 2 ^ 1074 := by
    unfold Toward.cut
    simp only [Bool.toNat_false, Nat.add_zero, Nat.shiftLeft_eq, Nat.one_mul]
    rw [rv_def]
    generalize rm r = m
    generalize rp r = p
    have hg : ∀ n drop : Nat, n / 2 ^ min drop (n.log2 + 2) = n / 2 ^ drop := fun n drop => by
      by_cases hd : drop ≤ n.log2 + 2
      · rw [Nat.min_eq_left hd]
      · rw [Nat.min_eq_right (by omega)]
        have hl := lt_two_log n
        have h1 : 2 ^ (n.log2 + 1) ≤ 2 ^ (n.log2 + 2) := Nat.pow_le_pow_right (by decide) (by omega)
        have h2 : 2 ^ (n.log2 + 1) ≤ 2 ^ drop := Nat.pow_le_pow_right (by decide) (by omega)
        rw [Nat.div_eq_of_lt (by omega), Nat.div_eq_of_lt (by omega)]
    rw [hg]
    by_cases hp : p ≤ 1074
    · obtain ⟨q, hq⟩ : ∃ q, 1074 = q + p := ⟨1074 - p, by omega⟩
      have e1 : (-1074 + (p : Int)).toNat = 0 := by omega
      have e2 : (-(-1074 + (p : Int))).toNat = q := by omega
      rw [e1, e2, hq, Nat.pow_zero, Nat.mul_one, Nat.pow_add, Nat.mul_div_mul_right _ _ (Nat.two_pow_pos p)]
    · obtain ⟨q, hq⟩ : ∃ q, p = q + 1074 := ⟨p - 1074, by omega⟩
      have e1 : (-1074 + (p : Int)).toNat = q := by omega
      have e2 : (-(-1074 + (p : Int))).toNat = 0 := by omega
      rw [e1, e2, hq, Nat.pow_add, ← Nat.mul_assoc, Nat.mul_div_cancel _ (Nat.two_pow_pos 1074), Nat.pow_zero, Nat.div_one]
  show (match Datum.integral .zero (.number false (rm r) (-1074 + (rp r : Int))) with | .number s m _ => some (signed s m 0) | _ => none) = _
  show some (signed false (Toward.zero.cut false (rm r <<< (-1074 + (rp r : Int)).toNat) (-(-1074 + (rp r : Int))).toNat) 0) = _
  rw [e]
  unfold signed
  rw [if_neg (by decide), Nat.shiftLeft_zero]
/-! ten thousand times a word; what is left of a whole number -/
def W10 : Nat := 4666723172467343360
def pr (r : Nat) : Nat := if rm r = 0 then 0 else nr (rm r * 5497558138880000) (-1074 + (rp r : Int) + -39)
theorem pr_inf (r : Nat) : pr r ≤ inf := by
  unfold pr; split
  · exact Nat.zero_le _
  · exact nr_inf _ _
theorem mul_eq (b : Nat) (h : rg b < inf) : double.mul b W10 = some (double.word (sg b) (pr (rg b))) := by
  have hw : double.read W10 = .number false 5497558138880000 (-39) := by decide
  unfold Format.mul
  rw [read_fin h, hw]
  show some (double.nearest (sg b ^^ false) (rm (rg b) * 5497558138880000) (-1074 + (rp (rg b) : Int) + -39)) = _
  rw [Bool.xor_false]
  unfold pr
  by_cases h0 : rm (rg b) = 0
  · rw [if_pos h0, h0, Nat.zero_mul]; rfl
  · rw [if_neg h0, nearest_eq _ _ _ (by omega)]
theorem mul_inf (b : Nat) (h : rg b = inf) : double.mul b W10 = some (double.word (sg b) inf) := by
  have hw : double.read W10 = .number false 5497558138880000 (-39) := by decide
  unfold Format.mul
  rw [read_inf h, hw]
  show some (double.word (sg b ^^ false) inf) = _
  rw [Bool.xor_false]
theorem pr_scale (r : Nat) : rm r * 5497558138880000 * 2 ^ (-1074 + (rp r : Int) + -39 + 1074).toNat = rv r * 10000 * 2 ^ (-(-1074 + (rp r : Int) + -39 + 1074)).toNat := by
  rw [rv_def]
  generalize rm r = m
  generalize rp r = p
  have e39 : (5497558138880000 : Nat) = 10000 * 2 ^ 39 := by decide
  by_cases h : 39 ≤ p
  · obtain ⟨q, rfl⟩ : ∃ q, p = q + 39 := ⟨p - 39, by omega⟩
    have e1 : (-1074 + ((q + 39 : Nat) : Int) + -39 + 1074).toNat = q := by omega
    have e2 : (-(-1074 + ((q + 39 : Nat) : Int) + -39 + 1074)).toNat = 0 := by omega
    rw [e1, e2, e39, Nat.pow_add, Nat.pow_zero, Nat.mul_one]
    simp only [Nat.mul_assoc, Nat.mul_comm, Nat.mul_left_comm]
  · obtain ⟨q, hq⟩ : ∃ q, 39 = p + q := ⟨39 - p, by omega⟩
    have e1 : (-1074 + (p : Int) + -39 + 1074).toNat = 0 := by omega
    have e2 : (-(-1074 + (p : Int) + -39 + 1074)).toNat = q := by omega
    rw [e1, e2, e39, hq, Nat.pow_add, Nat.pow_zero, Nat.mul_one]
    simp only [Nat.mul_assoc, Nat.mul_comm, Nat.mul_left_comm]
theorem pr_lo (r c : Nat) (hc : c ≤ inf) (h : rv c ≤ rv r * 10000) : c ≤ pr r := by
  unfold pr
  split
  · rename_i h0
    have : rv r = 0 := by rw [rv_def, h0, Nat.zero_mul]
    rw [this, Nat.zero_mul] at h
    have h1 : rv c ≤ rv 0 := by rw [rv_zero]; exact h
    exact rv_le.1 h1
  · rename_i h0
    refine nr_lo _ _ (by omega) c hc ?_
    rw [pr_scale]
    exact Nat.mul_le_mul_right _ h
theorem pr_hi (r c : Nat) (h : rv r * 10000 ≤ rv c) : pr r ≤ c := by
  unfold pr
  split
  · exact Nat.zero_le _
  · rename_i h0
    refine nr_hi _ _ (by omega) c ?_
    rw [pr_scale]
    exact Nat.mul_le_mul_right _ h
theorem mod_ltU (x U rem : Nat) (hU : 0 < U) (h : rem = x % U) : rem < U := by rw [h]; exact Nat.mod_lt _ hU
theorem pow_sum (a b e : Nat) (h : a + b = e) : 2 ^ a * 2 ^ b = 2 ^ e := by rw [← h, Nat.pow_add]
theorem le_divU (a x t U rem : Nat) (h1 : a = t * U) (h2 : U * t + rem = x) : a ≤ x := by rw [h1, Nat.mul_comm]; omega
/-- what is taken from a word to leave less than one -/
theorem sub_eq (r : Nat) (h : r < inf) (ht : rv r / 2 ^ 1074 < 2 ^ 53) : ∃ z, double.sub r (fw (rv r / 2 ^ 1074)) = some z ∧ z < inf ∧ rv z = rv r % 2 ^ 1074 := by
  have hUp := Nat.two_pow_pos 1074
  generalize hU : (2 : Nat) ^ 1074 = U at *
  obtain ⟨t, hte⟩ : ∃ t, t = rv r / U := ⟨_, rfl⟩
  rw [← hte] at ht ⊢
  obtain ⟨hfr, hfi⟩ := fw_rv t ht
  rw [hU] at hfr
  have hdm := Nat.div_add_mod (rv r) U
  rw [← hte] at hdm
  obtain ⟨rem, hrem⟩ : ∃ rem, rem = rv r % U := ⟨_, rfl⟩
  rw [← hrem] at hdm ⊢
  have hremlt := Nat.mod_lt (rv r) hUp
  rw [← hrem] at hremlt
  have hfle : rv (fw t) ≤ rv r := le_divU _ _ _ _ _ hfr hdm
  have hle : fw t ≤ r := rv_le.1 hfle
  obtain ⟨k, hk⟩ : ∃ k, k = min (rp r) (rp (fw t)) := ⟨_, rfl⟩
  have hb : min (-1074 + (rp r : Int)) (-1074 + (rp (fw t) : Int)) = -1074 + (k : Int) := by omega
  have ei : (-1074 + (rp r : Int) - (-1074 + (k : Int))).toNat = rp r - k := by omega
  have ej : (-1074 + (rp (fw t) : Int) - (-1074 + (k : Int))).toNat = rp (fw t) - k := by omega
  obtain ⟨N, hN⟩ : ∃ N, N = rm r * 2 ^ (rp r - k) - rm (fw t) * 2 ^ (rp (fw t) - k) := ⟨_, rfl⟩
  have h1 : rm r * 2 ^ (rp r - k) * 2 ^ k = rv r := by rw [rv_def, Nat.mul_assoc, ← Nat.pow_add, show rp r - k + k = rp r by omega]
  have h2 : rm (fw t) * 2 ^ (rp (fw t) - k) * 2 ^ k = rv (fw t) := by rw [rv_def, Nat.mul_assoc, ← Nat.pow_add, show rp (fw t) - k + k = rp (fw t) by omega]
  have h3 : rm (fw t) * 2 ^ (rp (fw t) - k) ≤ rm r * 2 ^ (rp r - k) := by
    refine Nat.le_of_mul_le_mul_right (c := 2 ^ k) ?_ (Nat.two_pow_pos k)
    rw [h1, h2]; exact hfle
  have hNr : N * 2 ^ k = rem := by
    rw [hN, Nat.sub_mul, h1, h2, hfr, Nat.mul_comm t]
    omega
  have hsub : double.sub r (fw t) = some (double.nearest false N (-1074 + (k : Int))) := by
    unfold Format.sub
    rw [parts r h, parts (fw t) hfi]
    show some (double.write _) = _
    have htot : signed false (rm r) (rp r - k) + signed true (rm (fw t)) (rp (fw t) - k) = (N : Int) := by
      rw [signed_eq, signed_eq, hN]
      simp only [if_pos, Bool.false_eq_true, if_false]
      omega
    simp only [hb, ei, ej, Bool.not_false, htot]
    have e1 : ((N : Int)).natAbs = N := Int.natAbs_natCast N
    have e2 : (if (N : Int) = 0 then false && true else decide ((N : Int) < 0)) = false := by
      split
      · rfl
      · exact decide_eq_false (by omega)
    rw [e1, e2]; rfl
  by_cases hN0 : N = 0
  · refine ⟨0, by rw [hsub, hN0]; rfl, (by decide : 0 < inf), ?_⟩
    rw [rv_zero, ← hNr, hN0, Nat.zero_mul]
  · rw [hsub, nearest_eq _ _ _ hN0, word_pos]
    have ek : (-1074 + (k : Int) + 1074).toNat = k := by omega
    have ek2 : (-(-1074 + (k : Int) + 1074)).toNat = 0 := by omega
    -- a rung that is worth what is left
    have hex : ∃ c, c < inf ∧ rv c = rem := by
      by_cases ht0 : t = 0
      · subst ht0
        exact ⟨r, h, by omega⟩
      · have hkp : rp (fw t) ≤ rp r := by
          unfold rp
          split
          · exact Nat.zero_le _
          · rw [if_neg (by omega)]
            have := Nat.div_le_div_right (c := B) hle
            omega
        have hkk : k = rp (fw t) := by omega
        have hN53 : N < 2 ^ 53 := by
          -- fw t is worth at least one: its place is above -53
          have hge : U ≤ rv (fw t) := by
            rw [hfr]
            calc U = 1 * U := (Nat.one_mul _).symm
              _ ≤ t * U := Nat.mul_le_mul_right _ (by omega)
          have hlt2 : rv (fw t) < 2 ^ 53 * 2 ^ k := by
            rw [hkk, rv_def]
            refine Nat.mul_lt_mul_of_pos_right ?_ (Nat.two_pow_pos _)
            unfold rm
            have h53 : 2 * B = 2 ^ 53 := by decide
            split
            · omega
            · have := Nat.mod_lt (fw t) B_pos; omega
          have h4 : N * 2 ^ k < 2 ^ 53 * 2 ^ k := by omega
          exact Nat.lt_of_mul_lt_mul_right h4
        have hk900 : k ≤ 1900 := by
          -- fw t is below 2 ^ 53
          have hk1 : 2 ^ k ≤ rem := by
            rw [← hNr]
            calc 2 ^ k = 1 * 2 ^ k := (Nat.one_mul _).symm
              _ ≤ N * 2 ^ k := Nat.mul_le_mul_right _ (by omega)
          rcases Nat.lt_or_ge k 1074 with h5 | h5
          · omega
          · exfalso
            have := Nat.pow_le_pow_right (show 0 < 2 by decide) h5
            rw [hU] at this
            omega
        obtain ⟨h5, h6⟩ := nr_ex N (-1074 + (k : Int)) hN0 hN53 (by omega) (by omega)
        rw [ek] at h5
        exact ⟨_, h6, h5.trans hNr⟩
    obtain ⟨c, hc1, hc2⟩ := hex
    have hz := nr_exact N (-1074 + (k : Int)) hN0 c (by omega) (by rw [ek, ek2, hNr, hc2, Nat.pow_zero, Nat.mul_one])
    rw [hz]
    exact ⟨c, rfl, hc1, hc2⟩
def Wh : Nat := 4602678819172646912
theorem rv_half : rv Wh = 2 ^ 1073 := by
  have h1 : Wh < B → False := by decide
  rw [rv_big h1]
  have h2 : Wh % B = 0 := by decide
  have h3 : Wh / B - 1 = 1021 := by decide
  rw [h2, h3, Nat.add_zero, show B = 2 ^ 52 from by decide]
  exact pow_sum 52 1021 1073 rfl
end Fl
