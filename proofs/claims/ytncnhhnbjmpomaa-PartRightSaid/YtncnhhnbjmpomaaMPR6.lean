/- What the statement leans on, part 6: functions of the program and of the reference as Lean functions, their contracts, and plain laws. -/
import Derived.Test.YtncnhhnbjmpomaaMPR5
namespace Go.Proofs.Ytncnhhnbjmpomaa.Q
open Go.RowKit Go.Proofs.YtncnhhnbjmpomaaW.PrintWords Go.Proofs.YtncnhhnbjmpomaaW.PrintLast Go.Proofs.YtncnhhnbjmpomaaW.PrintMore
set_option linter.unusedVariables false
set_option linter.unusedSimpArgs false
theorem mul_parts (x1 x0 y1 y0 p11 p10 p01 p00 : Int) (h00 : 0 ≤ p00) (h00b : p00 ≤ 18446744065119617025) (h01 : 0 ≤ p01) (h01b : p01 ≤ 18446744065119617025) (h10 : 0 ≤ p10) (h10b : p10 ≤ 18446744065119617025) (h11 : 0 ≤ p11) (h11b : p11 ≤ 18446744065119617025) :
    IntKind.u64.wrap (IntKind.u64.wrap (IntKind.u64.wrap p11 + IntKind.u64.wrap (IntKind.u64.wrap p10 + IntKind.u64.wrap p00 / 4294967296) / 4294967296) + IntKind.u64.wrap (IntKind.u64.wrap (p10 + p00 / 4294967296) % 4294967296 + IntKind.u64.wrap p01) / 4294967296)
      = ((p11 * 4294967296 + p10 + p01) * 4294967296 + p00) / 18446744073709551616 := by
  have e1 : IntKind.u64.wrap p11 = p11 := w64 h11 (by omega)
  have e2 : IntKind.u64.wrap p10 = p10 := w64 h10 (by omega)
  have e3 : IntKind.u64.wrap p01 = p01 := w64 h01 (by omega)
  have e4 : IntKind.u64.wrap p00 = p00 := w64 h00 (by omega)
  rw [e1, e2, e3, e4]
  have e5 : IntKind.u64.wrap (p10 + p00 / 4294967296) = p10 + p00 / 4294967296 := w64 (by omega) (by omega)
  rw [e5]
  have e6 : IntKind.u64.wrap ((p10 + p00 / 4294967296) % 4294967296 + p01) = (p10 + p00 / 4294967296) % 4294967296 + p01 := w64 (by omega) (by omega)
  rw [e6, w64 (x := p11 + (p10 + p00 / 4294967296) / 4294967296) (by omega) (by omega), w64 (by omega) (by omega)]
  omega
theorem mul_ring (x1 x0 y1 y0 : Int) : (x1 * 4294967296 + x0) * (y1 * 4294967296 + y0) = (x1 * y1 * 4294967296 + x1 * y0 + x0 * y1) * 4294967296 + x0 * y0 := by grind
theorem mul64_ok (a b : Int) (ha : 0 ≤ a) (ha2 : a < 18446744073709551616) (hb : 0 ≤ b) (hb2 : b < 18446744073709551616) : bits_Mul64.f a b = some (a * b / 18446744073709551616, a * b % 18446744073709551616) := by
  have xa0 : 0 ≤ a / 4294967296 := by omega
  have xa1 : a / 4294967296 ≤ 4294967295 := by omega
  have xb0 : 0 ≤ a % 4294967296 := by omega
  have xb1 : a % 4294967296 ≤ 4294967295 := by omega
  have ya0 : 0 ≤ b / 4294967296 := by omega
  have ya1 : b / 4294967296 ≤ 4294967295 := by omega
  have yb0 : 0 ≤ b % 4294967296 := by omega
  have yb1 : b % 4294967296 ≤ 4294967295 := by omega
  have hr := mul_ring (a / 4294967296) (a % 4294967296) (b / 4294967296) (b % 4294967296)
  have ea : a / 4294967296 * 4294967296 + a % 4294967296 = a := by omega
  have eb : b / 4294967296 * 4294967296 + b % 4294967296 = b := by omega
  rw [ea, eb] at hr
  have bd : ∀ x y : Int, 0 ≤ x → x ≤ 4294967295 → 0 ≤ y → y ≤ 4294967295 → 0 ≤ x * y ∧ x * y ≤ 18446744065119617025 := fun x y h1 h2 h3 h4 => ⟨Int.mul_nonneg h1 h3, by have := Int.mul_le_mul h2 h4 h3 (by omega : (0 : Int) ≤ 4294967295); omega⟩
  have b11 := bd _ _ xa0 xa1 ya0 ya1
  have b10 := bd _ _ xa0 xa1 yb0 yb1
  have b01 := bd _ _ xb0 xb1 ya0 ya1
  have b00 := bd _ _ xb0 xb1 yb0 yb1
  unfold bits_Mul64.f
  rw [and32 a ha ha2, and32 b hb hb2]
  have e4 : IntKind.u64.wrap (a % 4294967296 * (b % 4294967296)) = a % 4294967296 * (b % 4294967296) := w64 b00.1 (by omega)
  have e2 : IntKind.u64.wrap (a / 4294967296 * (b % 4294967296)) = a / 4294967296 * (b % 4294967296) := w64 b10.1 (by omega)
  have hm := mul_parts 0 0 0 0 _ _ _ _ b00.1 b00.2 b01.1 b01.2 b10.1 b10.2 b11.1 b11.2
  rw [e4, e2] at hm ⊢
  rw [← hr] at hm
  clear hr
  generalize a / 4294967296 * (b % 4294967296) = p10 at *
  generalize a % 4294967296 * (b % 4294967296) = p00 at *
  have e5 : IntKind.u64.wrap (p10 + p00 / 4294967296) = p10 + p00 / 4294967296 := w64 (by omega) (by omega)
  rw [and32 _ (by rw [e5]; omega) (by rw [e5]; omega), ← hm, w64m (a * b), e5]
theorem size_ok (a : Int) (ha : inR a) : money_size.f a = some (a.natAbs : Int) := by
  unfold inR at ha
  unfold money_size.f
  by_cases h : a < 0
  · rw [if_pos h]
    congr 1
    rw [IntKind.wrap_u64, IntKind.wrap_u64]; omega
  · rw [if_neg h]
    congr 1
    rw [IntKind.wrap_u64]; omega
theorem more_ok (m : Int) (neg : Bool) (q r c : Nat) (hq : q < 18446744073709551616) (hr : r < c) (hc : c ≤ 9223372036854775807) (hm : m = 0 ∨ m = 1 ∨ m = 2) : money_more.f m neg q r c = some (upB neg m q r c) := by
  unfold money_more.f upB
  by_cases h0 : r = 0
  · subst h0; rw [if_pos (by omega)]; rfl
  · rw [if_neg (by omega)]
    rcases hm with rfl | rfl | rfl
    · rw [if_pos rfl]; simp [h0]
    · rw [if_neg (by decide), if_pos rfl]; simp [h0]
    · rw [if_neg (by decide), if_neg (by decide)]
      have e : IntKind.u64.wrap ((c : Int) - (r : Int)) = ((c - r : Nat) : Int) := by rw [IntKind.wrap_u64]; omega
      rw [e, and1 q hq]
      by_cases h : r = c - r
      · rw [if_pos (by omega)]
        congr 1
        have h1 : ¬ c < 2 * r := by omega
        have h2 : ¬ 2 * r < c := by omega
        by_cases h3 : q % 2 = 1
        · simp [h0, h1, h2, h3]
        · have h4 : q % 2 = 0 := by omega
          simp [h0, h1, h2, h4]
      · rw [if_neg (by omega)]
        congr 1
        by_cases h1 : c < 2 * r
        · have : (r : Int) > ((c - r : Nat) : Int) := by omega
          simp [h0, h1, this]
        · have h2 : 2 * r < c := by omega
          have : ¬ (r : Int) > ((c - r : Nat) : Int) := by omega
          simp [h0, h1, h2, this]
theorem wz (q : Nat) (h : q + 1 = 18446744073709551616) : IntKind.u64.wrap ((q : Int) + 1) = 0 := by rw [IntKind.wrap_u64]; omega
theorem wn (q : Nat) (h : ¬ q + 1 = 18446744073709551616) (h2 : q < 18446744073709551616) : IntKind.u64.wrap ((q : Int) + 1) = ((q + 1 : Nat) : Int) := by rw [IntKind.wrap_u64]; omega
theorem nz (q : Nat) : ¬ ((q + 1 : Nat) : Int) = 0 := by omega
def resF (x : Int × Bool) : Int × Int := if x.2 = true then (x.1, 0) else (0, 2)
theorem mj2_ok (v : Nat) (hv : v < 18446744073709551616) : EvT (fun k => money_MulDiv.j1 k true (v : Int)) (resF (valF v true)) := by
  unfold valF
  rw [if_pos rfl]
  by_cases h : v ≤ 9223372036854775808
  · rw [if_pos h]
    refine EvT.step (g := fun k => money_MulDiv.j2 k true (v : Int) true) (fun k => ?_) (EvT.done (fun k => ?_))
    · simp only [money_MulDiv.j1]
      rw [if_pos trivial, decide_eq_true (by omega)]
    · simp only [money_MulDiv.j2]
      rw [if_pos trivial]
      have : wrap64 (IntKind.u64.wrap (-(v : Int))) = -(v : Int) := by rw [IntKind.wrap_u64]; unfold wrap64; omega
      rw [this]; rfl
  · rw [if_neg h]
    refine EvT.step (g := fun k => money_MulDiv.j2 k true (v : Int) false) (fun k => ?_) (EvT.done (fun k => ?_))
    · simp only [money_MulDiv.j1]
      rw [if_pos trivial, decide_eq_false (by omega)]
    · simp only [money_MulDiv.j2]
      rw [if_neg (by decide), if_pos trivial]; rfl
theorem mj4_ok (v : Nat) (hv : v < 18446744073709551616) : EvT (fun k => money_MulDiv.j3 k false (v : Int)) (resF (valF v false)) := by
  unfold valF
  rw [if_neg (by decide)]
  by_cases h : v < 9223372036854775808
  · rw [if_pos h]
    refine EvT.step (g := fun k => money_MulDiv.j4 k false (v : Int) false) (fun k => ?_) (EvT.done (fun k => ?_))
    · simp only [money_MulDiv.j3]
      rw [if_neg (by decide)]
    · simp only [money_MulDiv.j4]
      have : wrap64 (v : Int) = v := by unfold wrap64; omega
      have h' : (v : Int) < 9223372036854775808 := by omega
      rw [this]; simp [h', resF]
  · rw [if_neg h]
    refine EvT.step (g := fun k => money_MulDiv.j4 k false (v : Int) false) (fun k => ?_) (EvT.done (fun k => ?_))
    · simp only [money_MulDiv.j3]
      rw [if_neg (by decide)]
    · simp only [money_MulDiv.j4]
      have h' : ¬ (v : Int) < 9223372036854775808 := by omega
      simp [h', resF]
theorem pmd_true (a b c m : Int) (ha : inR a) (hb : inR b) (hc : inR c) (hc0 : 0 < c) (hm : m = 0 ∨ m = 1 ∨ m = 2) (hneg : negB a b = true) : EvT (fun k => money_MulDiv.j0 k a b c m false) (resF (mdF a b c.natAbs m)) := by
  have hneg' : (decide (a < 0) != decide (b < 0)) = true := hneg
  have ha' := ha
  have hb' := hb
  unfold inR at ha' hb' hc
  obtain ⟨n, rfl⟩ := Int.eq_ofNat_of_zero_le (show 0 ≤ c by omega)
  have e1 := size_ok a ha
  have e2 := size_ok b hb
  have e3 := mul64_ok a.natAbs b.natAbs (by omega) (by omega) (by omega) (by omega)
  have ew : IntKind.u64.wrap (n : Int) = n := by rw [IntKind.wrap_u64]; omega
  have eP : (a.natAbs : Int) * b.natAbs = ((a.natAbs * b.natAbs : Nat) : Int) := (Int.natCast_mul _ _).symm
  rw [eP] at e3
  have hna : Int.natAbs (n : Int) = n := rfl
  unfold mdF mdV
  rw [hneg, hna]
  generalize a.natAbs * b.natAbs = P at *
  refine EvT.step (g := fun k => if (P : Int) / 18446744073709551616 ≥ (n : Int) then some (0, 2) else (bits_Div64.f k ((P : Int) / 18446744073709551616) ((P : Int) % 18446744073709551616) n).bind fun bt => (money_more.f m true bt.1 bt.2 n).bind fun t => if t = true then (if IntKind.u64.wrap (bt.1 + 1) = 0 then some (0, 2) else money_MulDiv.j1 k true (IntKind.u64.wrap (bt.1 + 1))) else money_MulDiv.j1 k true bt.1) (fun k => ?_) ?_
  · simp only [money_MulDiv.j0]
    rw [if_neg (by decide), if_pos hneg']
    rw [e1, e2]
    simp only [Option.bind_some]
    rw [e3]
    simp only [Option.bind_some, ew]
  · have hn0 : 0 < n := by omega
    by_cases hbig : (P : Int) / 18446744073709551616 ≥ (n : Int)
    · have hq : 18446744073709551616 ≤ P / n := by
        rw [Nat.le_div_iff_mul_le hn0]
        have : n ≤ P / 18446744073709551616 := by omega
        omega
      have hv : valF (P / n + bv (upB true m (P / n) (P % n) n)) true = (0, false) := by
        unfold valF
        rw [if_pos rfl, if_neg (by omega)]
      rw [hv]
      exact EvT.congr (fun k => if_pos hbig) (EvT.const _)
    · refine EvT.congr (fun k => if_neg hbig) ?_
      obtain ⟨k0, hk0⟩ := div64_ok ((P : Int) / 18446744073709551616) ((P : Int) % 18446744073709551616) n (by omega) (by omega) (by omega) (by omega) (by omega)
      have eN : (P : Int) / 18446744073709551616 * 18446744073709551616 + (P : Int) % 18446744073709551616 = P := by omega
      rw [eN] at hk0
      have eq1 : (P : Int) / n = ((P / n : Nat) : Int) := (Int.natCast_ediv P n).symm
      have eq2 : (P : Int) % n = ((P % n : Nat) : Int) := (Int.natCast_emod P n).symm
      rw [eq1, eq2] at hk0
      have hD : EvT (fun k => bits_Div64.f k ((P : Int) / 18446744073709551616) ((P : Int) % 18446744073709551616) n) (((P / n : Nat) : Int), ((P % n : Nat) : Int)) := ⟨k0, fun k hk => by
        obtain ⟨j, rfl⟩ : ∃ j, k = k0 + j := ⟨k - k0, by omega⟩
        induction j with
        | zero => exact hk0
        | succ j ih => exact bits_Div64.mono _ _ _ (k0 + j) _ (ih (by omega))⟩
      refine EvT.bind hD ?_
      have hq2 : P / n < 18446744073709551616 := by
        apply Nat.div_lt_of_lt_mul
        have : P / 18446744073709551616 < n := by omega
        omega
      have hmo := more_ok m true (P / n) (P % n) n hq2 (Nat.mod_lt _ hn0) (by omega) hm
      cases hu : upB true m (P / n) (P % n) n with
      | false =>
        rw [hu] at hmo
        have e0 : P / n + bv false = P / n := by simp [bv]
        rw [e0]
        refine EvT.congr (fun k => ?_) (mj2_ok (P / n) hq2)
        show ((money_more.f m true ((P / n : Nat) : Int) ((P % n : Nat) : Int) n).bind _) = _
        rw [hmo]; simp
      | true =>
        rw [hu] at hmo
        have e0 : P / n + bv true = P / n + 1 := by simp [bv]
        rw [e0]
        by_cases hov : P / n + 1 = 18446744073709551616
        · have hv : valF (P / n + 1) true = (0, false) := by
            unfold valF
            rw [if_pos rfl, if_neg (by omega)]
          rw [hv]
          refine EvT.congr (fun k => ?_) (EvT.const _)
          show ((money_more.f m true ((P / n : Nat) : Int) ((P % n : Nat) : Int) n).bind _) = _
          have ez := wz (P / n) hov
          rw [hmo]
          simp only [Option.bind_some]
          rw [if_pos trivial, if_pos ez]; rfl
        · refine EvT.congr (fun k => ?_) (mj2_ok (P / n + 1) (by omega))
          show ((money_more.f m true ((P / n : Nat) : Int) ((P % n : Nat) : Int) n).bind _) = _
          have ez := wn (P / n) hov hq2
          rw [hmo]
          simp only [Option.bind_some, ez]
          rw [if_pos trivial, if_neg (nz (P / n))]
theorem pmd_false (a b c m : Int) (ha : inR a) (hb : inR b) (hc : inR c) (hc0 : 0 < c) (hm : m = 0 ∨ m = 1 ∨ m = 2) (hneg : negB a b = false) : EvT (fun k => money_MulDiv.j0 k a b c m false) (resF (mdF a b c.natAbs m)) := by
  have hneg' : ¬ (decide (a < 0) != decide (b < 0)) = true := by unfold negB at hneg; rw [hneg]; decide
  have ha' := ha
  have hb' := hb
  unfold inR at ha' hb' hc
  obtain ⟨n, rfl⟩ := Int.eq_ofNat_of_zero_le (show 0 ≤ c by omega)
  have e1 := size_ok a ha
  have e2 := size_ok b hb
  have e3 := mul64_ok a.natAbs b.natAbs (by omega) (by omega) (by omega) (by omega)
  have ew : IntKind.u64.wrap (n : Int) = n := by rw [IntKind.wrap_u64]; omega
  have eP : (a.natAbs : Int) * b.natAbs = ((a.natAbs * b.natAbs : Nat) : Int) := (Int.natCast_mul _ _).symm
  rw [eP] at e3
  have hna : Int.natAbs (n : Int) = n := rfl
  unfold mdF mdV
  rw [hneg, hna]
  generalize a.natAbs * b.natAbs = P at *
  refine EvT.step (g := fun k => if (P : Int) / 18446744073709551616 ≥ (n : Int) then some (0, 2) else (bits_Div64.f k ((P : Int) / 18446744073709551616) ((P : Int) % 18446744073709551616) n).bind fun bt => (money_more.f m false bt.1 bt.2 n).bind fun t => if t = true then (if IntKind.u64.wrap (bt.1 + 1) = 0 then some (0, 2) else money_MulDiv.j3 k false (IntKind.u64.wrap (bt.1 + 1))) else money_MulDiv.j3 k false bt.1) (fun k => ?_) ?_
  · simp only [money_MulDiv.j0]
    rw [if_neg (by decide), if_neg hneg']
    rw [e1, e2]
    simp only [Option.bind_some]
    rw [e3]
    simp only [Option.bind_some, ew]
  · have hn0 : 0 < n := by omega
    by_cases hbig : (P : Int) / 18446744073709551616 ≥ (n : Int)
    · have hq : 18446744073709551616 ≤ P / n := by
        rw [Nat.le_div_iff_mul_le hn0]
        have : n ≤ P / 18446744073709551616 := by omega
        omega
      have hv : valF (P / n + bv (upB false m (P / n) (P % n) n)) false = (0, false) := by
        unfold valF
        rw [if_neg (by decide), if_neg (by omega)]
      rw [hv]
      exact EvT.congr (fun k => if_pos hbig) (EvT.const _)
    · refine EvT.congr (fun k => if_neg hbig) ?_
      obtain ⟨k0, hk0⟩ := div64_ok ((P : Int) / 18446744073709551616) ((P : Int) % 18446744073709551616) n (by omega) (by omega) (by omega) (by omega) (by omega)
      have eN : (P : Int) / 18446744073709551616 * 18446744073709551616 + (P : Int) % 18446744073709551616 = P := by omega
      rw [eN] at hk0
      have eq1 : (P : Int) / n = ((P / n : Nat) : Int) := (Int.natCast_ediv P n).symm
      have eq2 : (P : Int) % n = ((P % n : Nat) : Int) := (Int.natCast_emod P n).symm
      rw [eq1, eq2] at hk0
      have hD : EvT (fun k => bits_Div64.f k ((P : Int) / 18446744073709551616) ((P : Int) % 18446744073709551616) n) (((P / n : Nat) : Int), ((P % n : Nat) : Int)) := ⟨k0, fun k hk => by
        obtain ⟨j, rfl⟩ : ∃ j, k = k0 + j := ⟨k - k0, by omega⟩
        induction j with
        | zero => exact hk0
        | succ j ih => exact bits_Div64.mono _ _ _ (k0 + j) _ (ih (by omega))⟩
      refine EvT.bind hD ?_
      have hq2 : P / n < 18446744073709551616 := by
        apply Nat.div_lt_of_lt_mul
        have : P / 18446744073709551616 < n := by omega
        omega
      have hmo := more_ok m false (P / n) (P % n) n hq2 (Nat.mod_lt _ hn0) (by omega) hm
      cases hu : upB false m (P / n) (P % n) n with
      | false =>
        rw [hu] at hmo
        have e0 : P / n + bv false = P / n := by simp [bv]
        rw [e0]
        refine EvT.congr (fun k => ?_) (mj4_ok (P / n) hq2)
        show ((money_more.f m false ((P / n : Nat) : Int) ((P % n : Nat) : Int) n).bind _) = _
        rw [hmo]; simp
      | true =>
        rw [hu] at hmo
        have e0 : P / n + bv true = P / n + 1 := by simp [bv]
        rw [e0]
        by_cases hov : P / n + 1 = 18446744073709551616
        · have hv : valF (P / n + 1) false = (0, false) := by
            unfold valF
            rw [if_neg (by decide), if_neg (by omega)]
          rw [hv]
          refine EvT.congr (fun k => ?_) (EvT.const _)
          show ((money_more.f m false ((P / n : Nat) : Int) ((P % n : Nat) : Int) n).bind _) = _
          have ez := wz (P / n) hov
          rw [hmo]
          simp only [Option.bind_some]
          rw [if_pos trivial, if_pos ez]; rfl
        · refine EvT.congr (fun k => ?_) (mj4_ok (P / n + 1) (by omega))
          show ((money_more.f m false ((P / n : Nat) : Int) ((P % n : Nat) : Int) n).bind _) = _
          have ez := wn (P / n) hov hq2
          rw [hmo]
          simp only [Option.bind_some, ez]
          rw [if_pos trivial, if_neg (nz (P / n))]
theorem pmd_ok (a b c m : Int) (ha : inR a) (hb : inR b) (hc : inR c) (hc0 : 0 < c) (hm : m = 0 ∨ m = 1 ∨ m = 2) : EvT (fun k => money_MulDiv.f k a b c m) (resF (mdF a b c.natAbs m)) := by
  have key : EvT (fun k => money_MulDiv.j0 k a b c m false) (resF (mdF a b c.natAbs m)) := by
    cases h : negB a b with
    | true => exact pmd_true a b c m ha hb hc hc0 hm h
    | false => exact pmd_false a b c m ha hb hc hc0 hm h
  refine EvT.congr (fun k => ?_) key
  unfold money_MulDiv.f
  rw [if_neg (by omega), if_neg (by omega), decide_eq_false (by omega)]
end Go.Proofs.Ytncnhhnbjmpomaa.Q
namespace Go.Proofs.Ytncnhhnbjmpomaa.Q
open Go.RowKit Go.Proofs.YtncnhhnbjmpomaaW.PrintWords Go.Proofs.Ytncnhhnbjmpomaa
set_option linter.unusedVariables false
set_option linter.unusedSimpArgs false
theorem bl_iff (a b : ByteArray) : a.toList = b.toList ↔ a = b := ⟨fun h => Go.WideShapes.bytes_inj (by rw [← ByteArray.toList_eq, ← ByteArray.toList_eq]; exact h), fun h => by rw [h]⟩
theorem rd106 (l : List S106) (i : Nat) (h : i < l.length) : rd_T106 l (i : Int) = l[i] := by simp [rd_T106, List.getD_eq_getElem?_getD, h]
theorem rdI (l : List Int) (i : Nat) (h : i < l.length) : rd l (i : Int) = l[i] := by simp [rd, List.getD_eq_getElem?_getD, h]
def badC (a c0 c1 c2 : Int) : Bool := decide (c0 < 0) || decide (c1 < 0) || decide (c2 < 0) || decide (c2 > 10000) || decide (a > 1125899906842624) || decide (c0 > a) || decide (c1 > wrap64 (a - c0))
theorem of_f (k : Nat) (a c0 c1 c2 c3 : Int) (l : List S106) : part_Of.f k a c0 c1 c2 c3 l = part_Of.j0 k a l (badC a c0 c1 c2) c0 c1 c2 c3 := by
  unfold part_Of.f badC
  by_cases h1 : c0 < 0
  · simp [h1]
  by_cases h2 : c1 < 0
  · simp [h1, h2]
  by_cases h3 : c2 < 0
  · simp [h1, h2, h3]
  by_cases h4 : c2 > 10000
  · simp [h1, h2, h3, h4]
  by_cases h5 : a > 1125899906842624
  · simp [h1, h2, h3, h4, h5]
  by_cases h6 : c0 > a
  · simp [h1, h2, h3, h4, h5, h6]
  · simp [h1, h2, h3, h4, h5, h6]
theorem parts_f (k : Nat) (a c0 c1 c2 c3 : Int) (l : List S106) : soukref11_Parts.f k a c0 c1 c2 c3 l = soukref11_Parts.j0 k a l (decide (l.length = 0) || decide (8 < l.length) || badC a c0 c1 c2) c0 c1 c2 c3 := by
  unfold soukref11_Parts.f badC
  by_cases e0 : l.length = 0
  · rw [if_pos (by omega)]; simp [e0]
  rw [if_neg (by omega)]
  by_cases e1 : 8 < l.length
  · rw [if_pos (by omega)]; simp [e1]
  rw [if_neg (by omega), decide_eq_false e0, decide_eq_false e1]
  by_cases h1 : c0 < 0
  · simp [h1]
  by_cases h2 : c1 < 0
  · simp [h1, h2]
  by_cases h3 : c2 < 0
  · simp [h1, h2, h3]
  by_cases h4 : c2 > 10000
  · simp [h1, h2, h3, h4]
  by_cases h5 : a > 1125899906842624
  · simp [h1, h2, h3, h4, h5]
  by_cases h6 : c0 > a
  · simp [h1, h2, h3, h4, h5, h6]
  · simp [h1, h2, h3, h4, h5, h6]
def wts (l : List S106) : List Int := l.map (·.f1)
def hv (hold n : Int) : Int := (mdF n hold 10000 0).1
def p68 (hold : Int) (x : S106) (n : Int) : S68 := ⟨x.f0, n, hv hold n⟩
def p69 (hold : Int) (x : S106) (n : Int) : S69 := ⟨x.f0, n, hv hold n⟩
theorem res_fst (a b : Int) (c : Nat) (m : Int) : (resF (mdF a b c m)).1 = (mdF a b c m).1 := by
  unfold resF
  split
  · rfl
  · rename_i h
    unfold mdF valF at h ⊢
    split at h
    · split at h
      · simp at h
      · rename_i h1 h2; rw [if_pos h1, if_neg h2]
    · split at h
      · simp at h
      · rename_i h1 h2; rw [if_neg h1, if_neg h2]
theorem of_l1 (hold c0 c1 c3 : Int) (ns : List Int) (l : List S106) (hl : l.length ≤ 20) (hn : ns.length = l.length) (hns : ∀ n ∈ ns, inR n) (hh : inR hold) : ∀ (d i : Nat), l.length - i = d → i ≤ l.length →
    EvT (fun k => part_Of.l1 k ns ((List.zipWith (p68 hold) l ns).take i) l (l.length : Int) i c0 c1 hold c3) (List.zipWith (p68 hold) l ns, 0)
  | 0, i, hd, hi => EvT.done fun k => by
    simp only [part_Of.l1]
    rw [if_neg (by omega), List.take_of_length_le (by simp; omega)]
  | d + 1, i, hd, hi => by
    have hlt : i < l.length := by omega
    have ih := of_l1 hold c0 c1 c3 ns l hl hn hns hh d (i + 1) (by omega) (by omega)
    have hx : inR ns[i] := hns _ (List.getElem_mem _)
    have hm := pmd_ok ns[i] hold 10000 0 hx hh ⟨by decide, by decide⟩ (by decide) (.inl rfl)
    have hz : i < (List.zipWith (p68 hold) l ns).length := by simp; omega
    have hlen : ((List.zipWith (p68 hold) l ns).take i).length < 4398046511104 := by simp; omega
    rw [List.take_succ_eq_append_getElem hz, List.getElem_zipWith] at ih
    refine EvT.step (fun k => ?_) (EvT.bind (F := fun k bt => if ((List.zipWith (p68 hold) l ns).take i).length < 4398046511104 then part_Of.l1 k ns ((List.zipWith (p68 hold) l ns).take i ++ [⟨l[i].f0, ns[i], bt.1⟩]) l (l.length : Int) ((i + 1 : Nat) : Int) c0 c1 hold c3 else none) hm (EvT.congr (fun k => if_pos hlen) ?_))
    · simp only [part_Of.l1]
      rw [if_pos (by omega), if_pos (by omega), if_pos (by omega), if_pos (by omega), rdI _ _ (by omega), rd106 _ _ hlt, nx i (by omega)]
    · simp only [res_fst]
      exact ih
theorem parts_l2 (hold c0 c1 c3 : Int) (ns : List Int) (l : List S106) (hl : l.length ≤ 20) (hn : ns.length = l.length) (hns : ∀ n ∈ ns, inR n) (hh : inR hold) : ∀ (d i : Nat), l.length - i = d → i ≤ l.length →
    EvT (fun k => soukref11_Parts.l2 k l ns ((List.zipWith (p69 hold) l ns).take i) i c0 c1 hold c3) (List.zipWith (p69 hold) l ns, 0)
  | 0, i, hd, hi => EvT.done fun k => by
    simp only [soukref11_Parts.l2]
    rw [if_neg (by omega), List.take_of_length_le (by simp; omega)]
  | d + 1, i, hd, hi => by
    have hlt : i < l.length := by omega
    have ih := parts_l2 hold c0 c1 c3 ns l hl hn hns hh d (i + 1) (by omega) (by omega)
    have hx : inR ns[i] := hns _ (List.getElem_mem _)
    have hm := rmd_ok ns[i] hold 10000 0 hx hh ⟨by decide, by decide⟩ (by decide) (.inl rfl)
    have hz : i < (List.zipWith (p69 hold) l ns).length := by simp; omega
    have hlen : ((List.zipWith (p69 hold) l ns).take i).length < 4398046511104 := by simp; omega
    rw [List.take_succ_eq_append_getElem hz, List.getElem_zipWith] at ih
    refine EvT.step (fun k => ?_) (EvT.bind (F := fun k bt => if ((List.zipWith (p69 hold) l ns).take i).length < 4398046511104 then soukref11_Parts.l2 k l ns ((List.zipWith (p69 hold) l ns).take i ++ [⟨l[i].f0, ns[i], bt.1⟩]) ((i + 1 : Nat) : Int) c0 c1 hold c3 else none) hm (EvT.congr (fun k => if_pos hlen) ?_))
    · simp only [soukref11_Parts.l2]
      rw [if_pos (by omega), if_pos (by omega), if_pos (by omega), rdI _ _ (by omega), rd106 _ _ hlt, nx i (by omega)]
    · exact ih
theorem of_l0 (a c0 c1 c2 c3 : Int) (l : List S106) (hl : l.length ≤ 20) {v : List S68 × Int}
    (hfin : EvT (fun k => (money_Split.f (wrap64 (wrap64 (a - c0) - c1)) (wts l)).bind fun bt497 => if bt497.2 = 0 then part_Of.l1 k bt497.1 ([] : List S68) l (l.length : Int) 0 c0 c1 c2 c3 else some (([] : List S68), bt497.2)) v) : ∀ (d i : Nat), l.length - i = d → i ≤ l.length →
    EvT (fun k => part_Of.l0 k a l ((wts l).take i) l (l.length : Int) i c0 c1 c2 c3) v
  | 0, i, hd, hi => EvT.step (fun k => by
      simp only [part_Of.l0]
      rw [if_neg (by omega), List.take_of_length_le (by simp [wts]; omega)]) hfin
  | d + 1, i, hd, hi => by
    have hlt : i < l.length := by omega
    have ih := of_l0 a c0 c1 c2 c3 l hl hfin d (i + 1) (by omega) (by omega)
    have hz : i < (wts l).length := by simp [wts]; omega
    have hlen : ((wts l).take i).length < 17592186044416 := by simp [wts]; omega
    rw [List.take_succ_eq_append_getElem hz] at ih
    refine EvT.step (fun k => ?_) ih
    simp only [part_Of.l0]
    rw [if_pos (by omega), if_pos (by omega), if_pos (by omega), if_pos hlen, rd106 _ _ hlt, nx i (by omega)]
    simp [wts]
theorem parts_l1 (a c0 c1 c2 c3 : Int) (l : List S106) (hl : l.length ≤ 20) (i : Nat) (hi : i < l.length) {v : List S69 × Int}
    (hdup : l[i].f0 ∈ (l.take i).map (·.f0) → v = ([], 9))
    (hgo : ¬ l[i].f0 ∈ (l.take i).map (·.f0) → EvT (fun k => soukref11_Parts.l0 k a l ((wts l).take (i + 1)) ((i + 1 : Nat) : Int) c0 c1 c2 c3) v) : ∀ (d j : Nat), i - j = d → j ≤ i → ¬ l[i].f0 ∈ (l.take j).map (·.f0) →
    EvT (fun k => soukref11_Parts.l1 k a l ((wts l).take i) i j c0 c1 c2 c3) v
  | 0, j, hd, hj, hno => by
    obtain rfl : j = i := by omega
    have hz : j < (wts l).length := by simp [wts]; omega
    have hlen : ((wts l).take j).length < 17592186044416 := by simp [wts]; omega
    have h := hgo hno
    rw [List.take_succ_eq_append_getElem hz] at h
    refine EvT.step (fun k => ?_) h
    simp only [soukref11_Parts.l1]
    rw [if_neg (by omega), if_pos (by omega), if_pos (by omega), if_pos hlen, rd106 _ _ hi, nx j (by omega)]
    simp [wts]
  | d + 1, j, hd, hj, hno => by
    have hjl : j < l.length := by omega
    by_cases he : l[j].f0 = l[i].f0
    · have hm : l[i].f0 ∈ (l.take i).map (·.f0) := List.mem_map.2 ⟨l[j], List.mem_take_iff_getElem.2 ⟨j, by omega, rfl⟩, he⟩
      rw [hdup hm]
      refine EvT.done fun k => ?_
      simp only [soukref11_Parts.l1]
      rw [if_pos (by omega), if_pos (by omega), if_pos (by omega), if_pos (by omega), if_pos (by omega), rd106 _ _ hi, rd106 _ _ hjl, if_pos ((bl_iff _ _).2 he)]
    · have ih := parts_l1 a c0 c1 c2 c3 l hl i hi hdup hgo d (j + 1) (by omega) (by omega) (by
        rw [List.take_succ_eq_append_getElem hjl, List.map_append, List.mem_append]
        rintro (h | h)
        · exact hno h
        · simp at h; exact he h.symm)
      refine EvT.step (fun k => ?_) ih
      simp only [soukref11_Parts.l1]
      rw [if_pos (by omega), if_pos (by omega), if_pos (by omega), if_pos (by omega), if_pos (by omega), rd106 _ _ hi, rd106 _ _ hjl, if_neg (fun h => he ((bl_iff _ _).1 h)), nx j (by omega)]
theorem parts_l0 (a c0 c1 c2 c3 : Int) (l : List S106) (hl : l.length ≤ 20) {v : List S69 × Int}
    (hfin : rightL [] l = 0 → EvT (fun k => (soukref01_Split.f (wrap64 (wrap64 (a - c0) - c1)) (wts l)).bind fun bt534 => soukref11_Parts.l2 k l bt534.1 ([] : List S69) 0 c0 c1 c2 c3) v)
    (hbad : ¬ rightL [] l = 0 → v = ([], rightL [] l)) : ∀ (d i : Nat), l.length - i = d → i ≤ l.length → rightL [] l = rightL ((l.take i).map (·.f0)) (l.drop i) →
    EvT (fun k => soukref11_Parts.l0 k a l ((wts l).take i) i c0 c1 c2 c3) v
  | 0, i, hd, hi, hr => by
    rw [List.drop_of_length_le (by omega)] at hr
    refine EvT.step (fun k => ?_) (hfin hr)
    simp only [soukref11_Parts.l0]
    rw [if_neg (by omega), List.take_of_length_le (by simp [wts]; omega)]
  | d + 1, i, hd, hi, hr => by
    have hlt : i < l.length := by omega
    rw [List.drop_eq_getElem_cons hlt, rightL] at hr
    have hj : EvT (fun k => soukref11_Parts.j2 k a l ((wts l).take i) i (badS l[i]) c0 c1 c2 c3) v := by
      by_cases hb : badS l[i] = true
      · rw [if_pos hb] at hr
        rw [hbad (by rw [hr]; decide), hr, hb]
        exact EvT.done fun k => by simp only [soukref11_Parts.j2]; rw [if_pos trivial]
      · rw [if_neg hb] at hr
        rw [eq_false_of_ne_true hb]
        refine EvT.step (fun k => by simp only [soukref11_Parts.j2]; rw [if_neg (by decide)]; rfl) (parts_l1 a c0 c1 c2 c3 l hl i hlt (fun h => ?_) (fun h => ?_) i 0 (by omega) (by omega) (by simp))
        · rw [if_pos h] at hr; rw [hbad (by rw [hr]; decide), hr]
        · rw [if_neg h] at hr
          exact parts_l0 a c0 c1 c2 c3 l hl hfin hbad d (i + 1) (by omega) (by omega) (by rw [hr, List.take_succ_eq_append_getElem hlt, List.map_append]; rfl)
    refine EvT.step (fun k => ?_) hj
    simp only [soukref11_Parts.l0]
    rw [if_pos (by omega), if_pos (by omega), rd106 _ _ hlt]
    unfold badS
    by_cases h1 : l[i].f0.toList = []
    · rw [if_pos h1]; simp [h1]
    rw [if_neg h1]
    by_cases h2 : (l[i].f0.size : Int) > 20
    · rw [if_pos h2]
      have : 20 < l[i].f0.size := by omega
      simp [h1, this]
    rw [if_neg h2]
    have h2' : ¬ 20 < l[i].f0.size := by omega
    by_cases h3 : l[i].f1 < 1
    · rw [if_pos h3]; simp [h1, h2', h3]
    rw [if_neg h3]; simp [h1, h2', h3]
end Go.Proofs.Ytncnhhnbjmpomaa.Q
namespace Go.Proofs.Ytncnhhnbjmpomaa.Q
open Go.RowKit Go.Proofs.YtncnhhnbjmpomaaW.PrintWords Go.Proofs.Ytncnhhnbjmpomaa Go.Sort
set_option linter.unusedVariables false
set_option linter.unusedSimpArgs false
theorem parts_facts (t : Int) (ws : List Int) (ht : 0 ≤ t) (hw : ∀ x ∈ ws, 0 ≤ x) (ha : 0 < ws.sum) : (∀ x ∈ partsF t ws, 0 ≤ x) ∧ (partsF t ws).sum = t ∧ (partsF t ws).length = ws.length := by
  have hlb := left_bd t ws ht hw ha
  have hm := mem_le_sum ws hw
  have hq0 : ∀ x ∈ quosF t ws.sum ws, 0 ≤ x := by
    intro x hx
    obtain ⟨y, hy, rfl⟩ := List.mem_map.1 hx
    exact (quo_bd ht (hw y hy) (hm y hy) ha).1
  have hp := srt_perm (restsF t ws.sum 0 ws).toArray
  have hl : (srt (restsF t ws.sum 0 ws).toArray).toList.length = ws.length := by rw [hp.1.length_eq]; simp [restsF_len]
  have hb := bump_facts ((srt (restsF t ws.sum 0 ws).toArray).toList.take (leftF t ws.sum ws).toNat) (quosF t ws.sum ws) hq0 (fun r hr => by
    have h := rests_idx t ws.sum ws 0 r (hp.1.mem_iff.1 (List.mem_of_mem_take hr))
    rw [quosF_len]; omega)
  refine ⟨hb.1, ?_, ?_⟩
  · show (bump _ _).sum = t
    rw [hb.2, List.length_take, hl, Nat.min_eq_left hlb.2]
    have : leftF t ws.sum ws = t - (quosF t ws.sum ws).sum := rfl
    omega
  · show (bump _ _).length = _
    rw [bump_len, quosF_len]
theorem rightL_ok : ∀ (l : List S106) (seen : List ByteArray), rightL seen l = 0 → ∀ x ∈ l, badS x = false
  | [], _, _, _, h => by cases h
  | y :: l, seen, h, x, hx => by
    unfold rightL at h
    split at h
    · cases h
    · rename_i hb
      split at h
      · cases h
      · rcases List.mem_cons.1 hx with rfl | hx
        · exact eq_false_of_ne_true hb
        · exact rightL_ok l _ h x hx
theorem rightL_vals : ∀ (l : List S106) (seen : List ByteArray), rightL seen l = 0 ∨ rightL seen l = 1 ∨ rightL seen l = 9
  | [], _ => .inl rfl
  | y :: l, seen => by
    unfold rightL
    split
    · exact .inr (.inl rfl)
    · split
      · exact .inr (.inr rfl)
      · exact rightL_vals l _
theorem rightF_vals (l : List S106) : rightF l = 0 ∨ rightF l = 1 ∨ rightF l = 9 := by
  unfold rightF
  split
  · exact .inr (.inl rfl)
  · exact rightL_vals l []
theorem badS_w {x : S106} (h : badS x = false) : 1 ≤ x.f1 ∧ x.f1 ≤ 1125899906842624 := by
  unfold badS at h
  simp only [Bool.or_eq_false_iff, decide_eq_false_iff_not] at h
  omega
theorem sum_le_mul : ∀ (l : List Int) (m : Int), (∀ x ∈ l, x ≤ m) → l.sum ≤ l.length * m
  | [], m, _ => by simp
  | x :: l, m, h => by
    have h1 := sum_le_mul l m (fun y hy => h y (by simp [hy]))
    have h2 := h x (by simp)
    simp only [List.sum_cons, List.length_cons, Int.natCast_add, Int.natCast_one, Int.add_mul, Int.one_mul]
    omega
theorem wts_facts (l : List S106) (h : rightF l = 0) : l.length ≤ 8 ∧ (∀ x ∈ wts l, 1 ≤ x ∧ x ≤ 1125899906842624) ∧ 0 < (wts l).sum ∧ (wts l).sum ≤ 9223372036854775807 ∧ rightL [] l = 0 := by
  unfold rightF at h
  split at h
  · cases h
  · rename_i h0
    have hw : ∀ x ∈ wts l, 1 ≤ x ∧ x ≤ 1125899906842624 := by
      intro x hx
      obtain ⟨y, hy, rfl⟩ := List.mem_map.1 hx
      exact badS_w (rightL_ok l [] h y hy)
    have h1 := sum_le_mul (wts l) 1125899906842624 (fun x hx => (hw x hx).2)
    have hlen : (wts l).length = l.length := by simp [wts]
    have hpos : 0 < (wts l).sum := by
      obtain ⟨x, xs, e⟩ : ∃ x xs, wts l = x :: xs := by
        cases hc : wts l with
        | nil => rw [hc] at hlen; simp at hlen; omega
        | cons x xs => exact ⟨x, xs, rfl⟩
      have hx := (hw x (by rw [e]; simp)).1
      have hxs := sum_nn xs (fun y hy => by have := (hw y (by rw [e]; simp [hy])).1; omega)
      rw [e, List.sum_cons]; omega
    refine ⟨by omega, hw, hpos, ?_, h⟩
    rw [hlen] at h1
    have : (l.length : Int) * 1125899906842624 ≤ 8 * 1125899906842624 := by omega
    omega
theorem badC_not {a c0 c1 c2 : Int} (h : badC a c0 c1 c2 = false) (ha : inR a) (h1 : inR c1) : 0 ≤ c0 ∧ 0 ≤ c1 ∧ 0 ≤ c2 ∧ c2 ≤ 10000 ∧ a ≤ 1125899906842624 ∧ wrap64 (wrap64 (a - c0) - c1) = a - c0 - c1 ∧ 0 ≤ a - c0 - c1 := by
  unfold badC at h
  simp only [Bool.or_eq_false_iff, decide_eq_false_iff_not] at h
  obtain ⟨⟨⟨⟨⟨⟨g1, g2⟩, g3⟩, g4⟩, g5⟩, g6⟩, g7⟩ := h
  have e1 : wrap64 (a - c0) = a - c0 := w64i (by omega) (by omega)
  rw [e1] at g7 ⊢
  have e2 : wrap64 (a - c0 - c1) = a - c0 - c1 := w64i (by omega) (by omega)
  rw [e2]
  omega
theorem split_yes (t : Int) (ws : List Int) (ht : 0 ≤ t) (hw : ∀ x ∈ ws, 1 ≤ x ∧ x ≤ 1125899906842624) (h0 : 0 < ws.sum) (h1 : ws.sum ≤ 9223372036854775807) : splitF t ws = (partsF t ws, 0) := by
  unfold splitF
  have hany : ws.any (fun n => decide (n < 0)) = false := by
    rw [List.any_eq_false]; intro x hx; have := (hw x hx).1; simp; omega
  rw [if_neg (by omega), hany, if_neg (by decide), if_neg (by omega), if_neg (by omega)]
def resE (a c0 c1 c2 : Int) (l : List S106) : Int := if badC a c0 c1 c2 = true then 1 else rightF l
def nets (a c0 c1 : Int) (l : List S106) : List Int := partsF (a - c0 - c1) (wts l)
theorem inRb_of {x : Int} (h : inR x) : inRb x = true := (inRb_iff x).2 h
theorem wts_in {l : List S106} (hw : ∀ x ∈ wts l, 1 ≤ x ∧ x ≤ 1125899906842624) : (wts l).all inRb = true := List.all_eq_true.2 fun x hx => inRb_of (by have := hw x hx; unfold inR; omega)
theorem nets_in {t : Int} (ht : 0 ≤ t) (ht2 : t ≤ 1125899906842624) {ns : List Int} (h0 : ∀ x ∈ ns, 0 ≤ x) (hs : ns.sum = t) : ∀ n ∈ ns, inR n := fun n hn => by
  have h1 := h0 n hn
  have h2 := mem_le_sum ns h0 n hn
  unfold inR; omega
theorem of_ok (a c0 c1 c2 c3 : Int) (l : List S106) (hl : l.length ≤ 20) (ha : inR a) (h1 : inR c1) (h2 : inR c2) :
    EvT (fun k => part_Of.f k a c0 c1 c2 c3 l) (if resE a c0 c1 c2 l = 0 then (List.zipWith (p68 c2) l (nets a c0 c1 l), 0) else ([], resE a c0 c1 c2 l)) := by
  refine EvT.congr (fun k => of_f k a c0 c1 c2 c3 l) ?_
  by_cases hb : badC a c0 c1 c2 = true
  · have e : resE a c0 c1 c2 l = 1 := if_pos hb
    rw [e, if_neg (by decide), hb]
    rcases rightF_vals l with h | h | h
    · refine EvT.step (g := fun k => part_Of.j1 k a l (rightF l) true c0 c1 c2 c3) (fun k => ?_) (EvT.done fun k => by simp only [part_Of.j1]; rw [if_pos trivial])
      simp only [part_Of.j0, part_Right.f, Option.bind_some]
      rw [if_pos trivial, if_pos h]
    · refine EvT.step (g := fun k => part_Of.j1 k a l (rightF l) false c0 c1 c2 c3) (fun k => ?_) (EvT.done fun k => by simp only [part_Of.j1]; rw [if_neg (by decide), if_neg (by rw [h]; decide), h])
      simp only [part_Of.j0, part_Right.f, Option.bind_some]
      rw [if_pos trivial, if_neg (by rw [h]; decide), h]; rfl
    · refine EvT.step (g := fun k => part_Of.j1 k a l (rightF l) true c0 c1 c2 c3) (fun k => ?_) (EvT.done fun k => by simp only [part_Of.j1]; rw [if_pos trivial])
      simp only [part_Of.j0, part_Right.f, Option.bind_some]
      rw [if_pos trivial, if_neg (by rw [h]; decide), h]; rfl
  · have e : resE a c0 c1 c2 l = rightF l := if_neg hb
    have hb := eq_false_of_ne_true hb
    rw [e, hb]
    refine EvT.step (g := fun k => part_Of.j1 k a l (rightF l) false c0 c1 c2 c3) (fun k => ?_) ?_
    · simp only [part_Of.j0, part_Right.f, Option.bind_some]
      rw [if_neg (by decide)]
    by_cases h0 : rightF l = 0
    · obtain ⟨w1, w2, w3, w4, w5⟩ := wts_facts l h0
      obtain ⟨b1, b2, b3, b4, b5, b6, b7⟩ := badC_not hb ha h1
      obtain ⟨p1, p2, p3⟩ := parts_facts (a - c0 - c1) (wts l) b7 (fun x hx => by have := (w2 x hx).1; omega) w3
      rw [if_pos h0]
      have hwl : (wts l).length = l.length := by simp [wts]
      have hsp : money_Split.f (wrap64 (wrap64 (a - c0) - c1)) (wts l) = some (nets a c0 c1 l, 0) := by
        unfold money_Split.f
        rw [if_pos ⟨by omega, wts_in w2, by rw [b6]; exact inRb_of (by unfold inR; omega)⟩, b6, split_yes _ _ b7 w2 w3 w4]; rfl
      have hl1 := of_l1 c2 c0 c1 c3 (nets a c0 c1 l) l hl (by show (partsF _ _).length = _; rw [p3, hwl]) (nets_in b7 (by omega) p1 p2) h2 l.length 0 (by omega) (by omega)
      have hl0 := of_l0 a c0 c1 c2 c3 l hl (v := (List.zipWith (p68 c2) l (nets a c0 c1 l), 0)) (by
        refine EvT.congr (fun k => ?_) hl1
        rw [hsp]
        simp only [Option.bind_some, if_true]
        rfl) l.length 0 (by omega) (by omega)
      refine EvT.step (fun k => ?_) hl0
      simp only [part_Of.j1]
      rw [if_neg (by decide), if_pos h0]; rfl
    · rw [if_neg h0]
      exact EvT.done fun k => by simp only [part_Of.j1]; rw [if_neg (by decide), if_neg h0]
theorem parts_ok (a c0 c1 c2 c3 : Int) (l : List S106) (hl : l.length ≤ 20) (ha : inR a) (h1 : inR c1) (h2 : inR c2) :
    EvT (fun k => soukref11_Parts.f k a c0 c1 c2 c3 l) (if resE a c0 c1 c2 l = 0 then (List.zipWith (p69 c2) l (nets a c0 c1 l), 0) else ([], resE a c0 c1 c2 l)) := by
  refine EvT.congr (fun k => parts_f k a c0 c1 c2 c3 l) ?_
  by_cases hb : badC a c0 c1 c2 = true
  · have e : resE a c0 c1 c2 l = 1 := if_pos hb
    rw [e, if_neg (by decide), hb, Bool.or_true]
    exact EvT.done fun k => by simp only [soukref11_Parts.j0]; rw [if_pos trivial]
  · have e : resE a c0 c1 c2 l = rightF l := if_neg hb
    have hb := eq_false_of_ne_true hb
    rw [e, hb, Bool.or_false]
    by_cases hlen : l.length = 0 ∨ 8 < l.length
    · have e1 : rightF l = 1 := if_pos hlen
      have e2 : (decide (l.length = 0) || decide (8 < l.length)) = true := by simpa using hlen
      rw [e1, e2, if_neg (by decide)]
      exact EvT.done fun k => by simp only [soukref11_Parts.j0]; rw [if_pos trivial]
    · have e1 : rightF l = rightL [] l := if_neg hlen
      have e2 : (decide (l.length = 0) || decide (8 < l.length)) = false := by simpa using hlen
      rw [e2]
      refine EvT.step (fun k => by simp only [soukref11_Parts.j0]; rw [if_neg (by decide)]; rfl) (parts_l0 a c0 c1 c2 c3 l hl (fun h => ?_) (fun h => ?_) l.length 0 (by omega) (by omega) rfl)
      · have h0 : rightF l = 0 := by rw [e1, h]
        obtain ⟨w1, w2, w3, w4, w5⟩ := wts_facts l h0
        obtain ⟨b1, b2, b3, b4, b5, b6, b7⟩ := badC_not hb ha h1
        obtain ⟨p1, p2, p3⟩ := parts_facts (a - c0 - c1) (wts l) b7 (fun x hx => by have := (w2 x hx).1; omega) w3
        have hwl : (wts l).length = l.length := by simp [wts]
        have hsp : soukref01_Split.f (wrap64 (wrap64 (a - c0) - c1)) (wts l) = some (nets a c0 c1 l, 0) := by
          unfold soukref01_Split.f
          rw [if_pos ⟨by omega, wts_in w2, by rw [b6]; exact inRb_of (by unfold inR; omega)⟩, b6, split_yes _ _ b7 w2 w3 w4]; rfl
        have hl1 := parts_l2 c2 c0 c1 c3 (nets a c0 c1 l) l hl (by show (partsF _ _).length = _; rw [p3, hwl]) (nets_in b7 (by omega) p1 p2) h2 l.length 0 (by omega) (by omega)
        rw [if_pos h0]
        refine EvT.congr (fun k => ?_) hl1
        rw [hsp]
        simp only [Option.bind_some]
        rfl
      · rw [e1, if_neg h]
end Go.Proofs.Ytncnhhnbjmpomaa.Q
namespace Go.Proofs.Ytncnhhnbjmpomaa.Q
open Go.RowKit Go.Proofs.YtncnhhnbjmpomaaW.PrintWords Go.Proofs.YtncnhhnbjmpomaaW.PrintLast Go.Proofs.YtncnhhnbjmpomaaW.PrintMore
attribute [local go_sem] max2_int min2_int max_two min_two max_three min_three max_four min_four   -- for this text's walks alone
set_option linter.unusedVariables false
set_option linter.unusedSimpArgs false
def souklaw12_lives.f (k : Nat)  : Option (Bool) := (part_Of.f k 100 0 0 0 0 (([(⟨(⟨#[97]⟩ : ByteArray), 1⟩ : S106), (⟨(⟨#[98]⟩ : ByteArray), 2⟩ : S106)] : List (S106)))).bind fun bt515 => (if bt515.2 = 0 then ((part_Part.f k bt515.1 (([(⟨(⟨#[97]⟩ : ByteArray), 33, 0⟩ : S68), (⟨(⟨#[98]⟩ : ByteArray), 67, 0⟩ : S68)] : List (S68)))).bind fun t522 => (some t522)) else (some false))
set_option maxHeartbeats 8000000 in
set_option maxRecDepth 100000 in
theorem souklaw12_lives.calls (k : Nat)  (r : Bool) (w : World) (h : souklaw12_lives.f k  = some r) :
    Calls Try.prog 31 #[] w fun e w' => e = .returned (.bool r) ∧ Below w.heap.size w w' := by
  have hu58 := Try.underlying58
  have hu106 := Try.underlying106
  have hu68 := Try.underlying68
  have HB := Aside0.mk (Below.refl w.heap.size w)
  have H : ((part_Of.f k 100 0 0 0 0 (([(⟨(⟨#[97]⟩ : ByteArray), 1⟩ : S106), (⟨(⟨#[98]⟩ : ByteArray), 2⟩ : S106)] : List (S106)))).bind fun bt515 => (if bt515.2 = 0 then ((part_Part.f k bt515.1 (([(⟨(⟨#[97]⟩ : ByteArray), 33, 0⟩ : S68), (⟨(⟨#[98]⟩ : ByteArray), 67, 0⟩ : S68)] : List (S68)))).bind fun t522 => (some t522)) else (some false))) = some r := h
  clear h
  obtain ⟨y512, hy512⟩ : ∃ y_ : List (S106), y_ = (([(⟨(⟨#[97]⟩ : ByteArray), 1⟩ : S106), (⟨(⟨#[98]⟩ : ByteArray), 2⟩ : S106)] : List (S106))) := ⟨_, rfl⟩
  replace H : ((part_Of.f k 100 0 0 0 0 y512).bind fun bt515 => (if bt515.2 = 0 then ((part_Part.f k bt515.1 (([(⟨(⟨#[97]⟩ : ByteArray), 33, 0⟩ : S68), (⟨(⟨#[98]⟩ : ByteArray), 67, 0⟩ : S68)] : List (S68)))).bind fun t522 => (some t522)) else (some false))) = some r := by first | (rw [hy512]; with_reducible exact H) | (have H2_ := (Option.bind_some _ _).symm.trans H; rw [hy512]; with_reducible exact H2_) | (have H2_ := (Option.bind_some _ _).symm.trans H; with_reducible exact H2_) | with_reducible exact H | (rw [hy512]; exact H) | exact H
  have Ny512 := Aside0.mk hy512
  clear hy512
  replace H := Option.bind_eq_some_iff.mp H
  obtain ⟨⟨t515, t518⟩, A10, H⟩ := H
  replace H : (if t518 = 0 then ((part_Part.f k t515 (([(⟨(⟨#[97]⟩ : ByteArray), 33, 0⟩ : S68), (⟨(⟨#[98]⟩ : ByteArray), 67, 0⟩ : S68)] : List (S68)))).bind fun t522 => (some t522)) else (some false)) = some r := H
  have A1 := Aside0.mk A10
  clear A10
  by_cases c2 : t518 = 0
  · rw [if_pos c2] at H
    have c2b0 : (t518 == 0) = true := beq_iff_eq.mpr c2
    have c2b1 : (t518 != 0) = false := bne_eq_false_iff_eq.mpr c2
    clear c2
    obtain ⟨y519, hy519⟩ : ∃ y_ : List (S68), y_ = (([(⟨(⟨#[97]⟩ : ByteArray), 33, 0⟩ : S68), (⟨(⟨#[98]⟩ : ByteArray), 67, 0⟩ : S68)] : List (S68))) := ⟨_, rfl⟩
    replace H : ((part_Part.f k t515 y519).bind fun t522 => (some t522)) = some r := by first | (rw [hy519]; with_reducible exact H) | (have H2_ := (Option.bind_some _ _).symm.trans H; rw [hy519]; with_reducible exact H2_) | (have H2_ := (Option.bind_some _ _).symm.trans H; with_reducible exact H2_) | with_reducible exact H | (rw [hy519]; exact H) | exact H
    have Ny519 := Aside0.mk hy519
    clear hy519
    replace H := Option.bind_eq_some_iff.mp H
    obtain ⟨t522, A30, H⟩ := H
    replace H : (some t522) = some r := H
    have A3 := Aside0.mk A30
    clear A30
    obtain rfl := Option.some.inj H
    go_enter Try.func31, Try.ntmps31
    go_wp2_with (first | ((with_reducible refine gate_dst (N := 7) rfl ?_); (try (refine gate_guard (by rfl) ?_; dsimp only)); refine Kd.R_lit k106 _ 106 ?hg (N := 7) ?hd (xs := ([(⟨(⟨#[97]⟩ : ByteArray), 1⟩ : S106), (⟨(⟨#[98]⟩ : ByteArray), 2⟩ : S106)] : List (S106))) (inner := [.string (⟨#[97]⟩ : ByteArray), .int .i64 1, .string (⟨#[98]⟩ : ByteArray), .int .i64 2]) (ok := fun _ => True) (okp := fun _ => True) ?hr ?hp (fun _ hk => hk) trivial (Below.refl _ _) (Nat.le_refl _) (by simp) ?_; (case hd => rfl); (case hg => rfl); (case hr => first | (go_simp; done) | (go_simp; rfl)); (case hp => exact (Reps.c2 (show Kd.M k106 _ _ _ (⟨(⟨#[97]⟩ : ByteArray), 1⟩ : S106) [.string (⟨#[97]⟩ : ByteArray), .int .i64 1] from (k106_mkM _ _ _ (⟨(⟨#[97]⟩ : ByteArray), 1⟩ : S106) )) (Reps.c2 (show Kd.M k106 _ _ _ (⟨(⟨#[98]⟩ : ByteArray), 2⟩ : S106) [.string (⟨#[98]⟩ : ByteArray), .int .i64 2] from (k106_mkM _ _ _ (⟨(⟨#[98]⟩ : ByteArray), 2⟩ : S106) )) (Reps.none _ _)))); intro v513 w4 ho5 hb hg_ hnew_; clear hg_ hnew_; (first | rw [← Ny512.out] at ho5 | (simp only [Int.reduceToNat] at ho5; rw [← Ny512.out] at ho5)); have n0_ := Aside0.mk (Kd.R_lower ho5 (below_size (by repeat (first | (with_reducible first | exact HB.out | apply below_alloc | apply pw_below_drewN | apply below_drew1) | exact HB.out)))); have n1_ := Aside0.mk (below_step (by repeat (first | (with_reducible first | exact HB.out | apply below_alloc | apply pw_below_drewN | apply below_drew1) | exact HB.out)) hb); clear HB; have HO514 := n0_; have HB := n1_; clear n0_ n1_; clear hb ho5; obtain ⟨Ao6, co6, eo6⟩ := Kd.R_slice HO514.out; subst eo6) | ((with_reducible refine gate_callee (f := 32) rfl ?_); refine goesL_ (some 8) rfl rfl Try.func32 (by kernel_rfl) rfl #[.int .i64 100, .agg #[.int .i64 0, .int .i64 0, .int .i64 0, .int .i64 0], .slice Ao6 y512.length co6] rfl (by (try simp only [List.map_toArray, List.map_cons, List.map_nil]); first | done | rfl | (simp only [List.length_drop, List.length_take]; rfl)) ?_; (with_reducible refine (part_Of.calls k 100 0 0 0 0 _ _ y512 t515 t518 _ ?side1 ?side2 A1.out).mono ?_); (case side1 => repeat (first | exact (Kd.R_reads' HO514.out).2.2 | (with_reducible refine Kd.C_alloc ?_ _) | (with_reducible refine Kd.C_drewN ?_ _) | (with_reducible refine Kd.C_drew ?_))); (case side2 => exact (Kd.R_reads' HO514.out).2.1); rintro e w7 ⟨v516, rfl, ho0, hb⟩; refine ⟨_, rfl, ?_⟩; have n0_ := Aside0.mk (Kd.R_below (by (with_reducible repeat (first | apply Kd.R_alloc | apply Kd.R_drewN | apply Kd.R_drew)); exact HO514.out) hb); have n1_ := Aside0.mk (Kd.R_lower ho0 (below_size (by repeat (first | (with_reducible first | exact HB.out | apply below_alloc | apply pw_below_drewN | apply below_drew1) | exact HB.out)))); have n2_ := Aside0.mk (below_step (by repeat (first | (with_reducible first | exact HB.out | apply below_alloc | apply pw_below_drewN | apply below_drew1) | exact HB.out)) hb); clear HO514; clear HB; have HO514 := n0_; have HO517 := n1_; have HB := n2_; clear n0_ n1_ n2_; (try clear hb); (try clear hb2); (try clear hk); (try clear hi); (try clear ho0)) | ((with_reducible refine gate_dst (N := 17) rfl ?_); (try (refine gate_guard (by rfl) ?_; dsimp only)); refine Kd.R_lit k68 _ 68 ?hg (N := 17) ?hd (xs := ([(⟨(⟨#[97]⟩ : ByteArray), 33, 0⟩ : S68), (⟨(⟨#[98]⟩ : ByteArray), 67, 0⟩ : S68)] : List (S68))) (inner := [.string (⟨#[97]⟩ : ByteArray), .int .i64 33, .int .i64 0, .string (⟨#[98]⟩ : ByteArray), .int .i64 67, .int .i64 0]) (ok := fun _ => True) (okp := fun _ => True) ?hr ?hp (fun _ hk => hk) trivial (Below.refl _ _) (Nat.le_refl _) (by simp) ?_; (case hd => rfl); (case hg => rfl); (case hr => first | (go_simp; done) | (go_simp; rfl)); (case hp => exact (Reps.c3 (show Kd.M k68 _ _ _ (⟨(⟨#[97]⟩ : ByteArray), 33, 0⟩ : S68) [.string (⟨#[97]⟩ : ByteArray), .int .i64 33, .int .i64 0] from (k68_mkM _ _ _ (⟨(⟨#[97]⟩ : ByteArray), 33, 0⟩ : S68) )) (Reps.c3 (show Kd.M k68 _ _ _ (⟨(⟨#[98]⟩ : ByteArray), 67, 0⟩ : S68) [.string (⟨#[98]⟩ : ByteArray), .int .i64 67, .int .i64 0] from (k68_mkM _ _ _ (⟨(⟨#[98]⟩ : ByteArray), 67, 0⟩ : S68) )) (Reps.none _ _)))); intro v520 w8 ho9 hb hg_ hnew_; clear hg_ hnew_; (first | rw [← Ny519.out] at ho9 | (simp only [Int.reduceToNat] at ho9; rw [← Ny519.out] at ho9)); have n0_ := Aside0.mk (Kd.R_below (by (with_reducible repeat (first | apply Kd.R_alloc | apply Kd.R_drewN | apply Kd.R_drew)); exact HO514.out) hb); have n1_ := Aside0.mk (Kd.R_elder' (by (with_reducible repeat (first | apply Kd.R_alloc | apply Kd.R_drewN | apply Kd.R_drew)); exact HO517.out) (Kd.R_base ho9) hb); have n2_ := Aside0.mk (Kd.R_lower (Kd.R_new' ho9 (Kd.R_lt (by (with_reducible repeat (first | apply Kd.R_alloc | apply Kd.R_drewN | apply Kd.R_drew)); exact HO517.out))) (below_size (by repeat (first | (with_reducible first | exact HB.out | apply below_alloc | apply pw_below_drewN | apply below_drew1) | exact HB.out)))); have n3_ := Aside0.mk (below_step (by repeat (first | (with_reducible first | exact HB.out | apply below_alloc | apply pw_below_drewN | apply below_drew1) | exact HB.out)) hb); clear HO514; clear HO517; clear HB; have HO514 := n0_; have HO517 := n1_; have HO521 := n2_; have HB := n3_; clear n0_ n1_ n2_ n3_; clear hb ho9; obtain ⟨Ao10, co10, eo10⟩ := Kd.R_slice HO517.out; subst eo10; obtain ⟨Ao11, co11, eo11⟩ := Kd.R_slice HO521.out; subst eo11) | (go_at_call 58; (with_reducible refine (part_Part.calls k _ _ t515 _ _ y519 t522 _ ?side1 ?side2 ?side3 ?side4 A3.out).mono ?_); (case side1 => repeat (first | exact (Kd.R_reads' HO517.out).2.2 | (with_reducible refine Kd.C_alloc ?_ _) | (with_reducible refine Kd.C_drewN ?_ _) | (with_reducible refine Kd.C_drew ?_))); (case side2 => exact (Kd.R_reads' HO517.out).2.1); (case side3 => repeat (first | exact (Kd.R_reads' HO521.out).2.2 | (with_reducible refine Kd.C_alloc ?_ _) | (with_reducible refine Kd.C_drewN ?_ _) | (with_reducible refine Kd.C_drew ?_))); (case side4 => exact (Kd.R_reads' HO521.out).2.1); rintro e w' ⟨rfl, ⟨nd, rfl⟩⟩))
    go_ret
    exact ⟨by first | rfl | (simp [errW_none, errW_some] <;> rfl) | (simp [*, errW_none, errW_some] <;> rfl), by repeat (first | (with_reducible first | exact HB.out | apply below_alloc | apply pw_below_drewN | apply below_drew1) | exact HB.out)⟩
  · rw [if_neg c2] at H
    have c2b0 : (t518 == 0) = false := beq_eq_false_iff_ne.mpr c2
    have c2b1 : (t518 != 0) = true := bne_iff_ne.mpr c2
    obtain rfl := Option.some.inj H
    go_enter Try.func31, Try.ntmps31
    go_wp2_with (first | ((with_reducible refine gate_dst (N := 7) rfl ?_); (try (refine gate_guard (by rfl) ?_; dsimp only)); refine Kd.R_lit k106 _ 106 ?hg (N := 7) ?hd (xs := ([(⟨(⟨#[97]⟩ : ByteArray), 1⟩ : S106), (⟨(⟨#[98]⟩ : ByteArray), 2⟩ : S106)] : List (S106))) (inner := [.string (⟨#[97]⟩ : ByteArray), .int .i64 1, .string (⟨#[98]⟩ : ByteArray), .int .i64 2]) (ok := fun _ => True) (okp := fun _ => True) ?hr ?hp (fun _ hk => hk) trivial (Below.refl _ _) (Nat.le_refl _) (by simp) ?_; (case hd => rfl); (case hg => rfl); (case hr => first | (go_simp; done) | (go_simp; rfl)); (case hp => exact (Reps.c2 (show Kd.M k106 _ _ _ (⟨(⟨#[97]⟩ : ByteArray), 1⟩ : S106) [.string (⟨#[97]⟩ : ByteArray), .int .i64 1] from (k106_mkM _ _ _ (⟨(⟨#[97]⟩ : ByteArray), 1⟩ : S106) )) (Reps.c2 (show Kd.M k106 _ _ _ (⟨(⟨#[98]⟩ : ByteArray), 2⟩ : S106) [.string (⟨#[98]⟩ : ByteArray), .int .i64 2] from (k106_mkM _ _ _ (⟨(⟨#[98]⟩ : ByteArray), 2⟩ : S106) )) (Reps.none _ _)))); intro v513 w12 ho13 hb hg_ hnew_; clear hg_ hnew_; (first | rw [← Ny512.out] at ho13 | (simp only [Int.reduceToNat] at ho13; rw [← Ny512.out] at ho13)); have n0_ := Aside0.mk (Kd.R_lower ho13 (below_size (by repeat (first | (with_reducible first | exact HB.out | apply below_alloc | apply pw_below_drewN | apply below_drew1) | exact HB.out)))); have n1_ := Aside0.mk (below_step (by repeat (first | (with_reducible first | exact HB.out | apply below_alloc | apply pw_below_drewN | apply below_drew1) | exact HB.out)) hb); clear HB; have HO514 := n0_; have HB := n1_; clear n0_ n1_; clear hb ho13; obtain ⟨Ao14, co14, eo14⟩ := Kd.R_slice HO514.out; subst eo14) | ((with_reducible refine gate_callee (f := 32) rfl ?_); refine goesL_ (some 8) rfl rfl Try.func32 (by kernel_rfl) rfl #[.int .i64 100, .agg #[.int .i64 0, .int .i64 0, .int .i64 0, .int .i64 0], .slice Ao14 y512.length co14] rfl (by (try simp only [List.map_toArray, List.map_cons, List.map_nil]); first | done | rfl | (simp only [List.length_drop, List.length_take]; rfl)) ?_; (with_reducible refine (part_Of.calls k 100 0 0 0 0 _ _ y512 t515 t518 _ ?side1 ?side2 A1.out).mono ?_); (case side1 => repeat (first | exact (Kd.R_reads' HO514.out).2.2 | (with_reducible refine Kd.C_alloc ?_ _) | (with_reducible refine Kd.C_drewN ?_ _) | (with_reducible refine Kd.C_drew ?_))); (case side2 => exact (Kd.R_reads' HO514.out).2.1); rintro e w15 ⟨v516, rfl, ho0, hb⟩; refine ⟨_, rfl, ?_⟩; have n0_ := Aside0.mk (Kd.R_below (by (with_reducible repeat (first | apply Kd.R_alloc | apply Kd.R_drewN | apply Kd.R_drew)); exact HO514.out) hb); have n1_ := Aside0.mk (Kd.R_lower ho0 (below_size (by repeat (first | (with_reducible first | exact HB.out | apply below_alloc | apply pw_below_drewN | apply below_drew1) | exact HB.out)))); have n2_ := Aside0.mk (below_step (by repeat (first | (with_reducible first | exact HB.out | apply below_alloc | apply pw_below_drewN | apply below_drew1) | exact HB.out)) hb); clear HO514; clear HB; have HO514 := n0_; have HO517 := n1_; have HB := n2_; clear n0_ n1_ n2_; (try clear hb); (try clear hb2); (try clear hk); (try clear hi); (try clear ho0)))
    go_ret
    exact ⟨by first | rfl | (simp [errW_none, errW_some] <;> rfl) | (simp [*, errW_none, errW_some] <;> rfl), by repeat (first | (with_reducible first | exact HB.out | apply below_alloc | apply pw_below_drewN | apply below_drew1) | exact HB.out)⟩
end Go.Proofs.Ytncnhhnbjmpomaa.Q
namespace Go.Proofs.Ytncnhhnbjmpomaa.Q
open Go.RowKit Go.Proofs.YtncnhhnbjmpomaaW.PrintWords Go.Proofs.YtncnhhnbjmpomaaW.PrintLast Go.Proofs.YtncnhhnbjmpomaaW.PrintMore
attribute [local go_sem] max2_int min2_int max_two min_two max_three min_three max_four min_four   -- for this text's walks alone
set_option linter.unusedVariables false
set_option linter.unusedSimpArgs false
def souklaw12_PartRight.j0 : Nat → List (S106) → Bool → Option (Bool)
  | 0, _, _ => none
  | k + 1, x0, x14 => if x14 = true then ((souklaw12_lives.f k).bind fun t561 => (some t561)) else ((part_Right.f x0).bind fun t562 => ((soukref11_Parts.f k 1000 0 0 0 0 x0).bind fun bt563 => ((part_Of.f k 1000 0 0 0 0 x0).bind fun bt567 => (if t562 = bt563.2 then (some (bt567.2 == bt563.2)) else (some false)))))
def souklaw12_PartRight.f (k : Nat) (l0 : List (S106)) : Option (Bool) := (souklaw12_lives.f k).bind fun t560 => (if t560 = true then (souklaw12_PartRight.j0 k l0 (decide ((l0.length : Int) > 20))) else (souklaw12_PartRight.j0 k l0 true))
set_option maxHeartbeats 8000000 in
set_option maxRecDepth 100000 in
theorem souklaw12_PartRight.calls (k : Nat) (A0 : Option Addr) (c0 : Nat) (l0 : List (S106)) (r : Bool) (w : World) (hr0 : Kd.C k106 w A0 l0.length l0) (hc0 : l0.length ≤ c0) (h : souklaw12_PartRight.f k l0 = some r) :
    Calls Try.prog 10 #[.slice A0 l0.length c0] w fun e w' => e = .returned (.bool r) ∧ Below w.heap.size w w' := by
  have hu66 := Try.underlying66
  have hu58 := Try.underlying58
  have HR0 := Aside0.mk hr0
  have HC0 := Aside0.mk hc0
  clear hr0 hc0
  have HB := Aside0.mk (Below.refl w.heap.size w)
  have H : ((souklaw12_lives.f k).bind fun t560 => (if t560 = true then (souklaw12_PartRight.j0 k l0 (decide ((l0.length : Int) > 20))) else (souklaw12_PartRight.j0 k l0 true))) = some r := h
  clear h
  have HC2 := Aside0.mk H
  clear H
  go_enter Try.func10, Try.ntmps10
  go_upto_region 1 with (fail)
  go_cut [14] (fun v14 wc => ∃ (kq : Nat) (x14_1 : Bool), v14 = .bool x14_1 ∧ Aside0 (souklaw12_PartRight.j0 kq l0 x14_1 = some r) ∧ Aside0 (kq ≤ k) ∧ Aside0 (Below w.heap.size w wc))
  case first =>
    have H := HC2.out
    clear HC2
    replace H := Option.bind_eq_some_iff.mp H
    obtain ⟨t560, A30, H⟩ := H
    replace H : (if t560 = true then (souklaw12_PartRight.j0 k l0 (decide ((l0.length : Int) > 20))) else (souklaw12_PartRight.j0 k l0 true)) = some r := H
    have A3 := Aside0.mk A30
    clear A30
    by_cases c4 : t560 = true
    · subst c4
      have H1 : (souklaw12_PartRight.j0 k l0 (decide ((l0.length : Int) > 20))) = some r := by rw [if_pos rfl] at H; exact H
      clear H
      have H := H1
      clear H1
      have H' := Aside0.mk H
      clear H
      go_wp2_with (first | ((with_reducible refine gate_callee (f := 31) rfl ?_); refine goesL_ (some 8) rfl rfl Try.func31 (by kernel_rfl) rfl #[] rfl (by (try simp only [List.map_toArray, List.map_cons, List.map_nil]); first | done | rfl | (simp only [List.length_drop, List.length_take]; rfl)) ?_; (with_reducible refine (souklaw12_lives.calls k  true _ A3.out).mono ?_); rintro e w5 ⟨rfl, hb⟩; refine ⟨_, rfl, ?_⟩; have n0_ := Aside0.mk (below_step (by repeat (first | (with_reducible first | exact HB.out | apply below_alloc | apply pw_below_drewN | apply below_drew1) | exact HB.out)) hb); clear HB; have HB := n0_; clear n0_; (try clear hb); (try clear hb2); (try clear hk); (try clear hi)))
      go_meet
      case rel => exact ⟨_, (decide ((l0.length : Int) > 20)), (by first | rfl | (simp; done) | (simp [*]; done)), H', ⟨by first | omega | exact Nat.le_refl _⟩, ⟨by repeat (first | (with_reducible first | exact HB.out | apply below_alloc | apply pw_below_drewN | apply below_drew1) | exact HB.out)⟩⟩
    · replace c4 := Bool.eq_false_iff.mpr c4
      subst c4
      have H1 : (souklaw12_PartRight.j0 k l0 true) = some r := by rw [if_neg (show ¬ (false = true) by decide)] at H; exact H
      clear H
      have H := H1
      clear H1
      have H' := Aside0.mk H
      clear H
      go_wp2_with (first | ((with_reducible refine gate_callee (f := 31) rfl ?_); refine goesL_ (some 8) rfl rfl Try.func31 (by kernel_rfl) rfl #[] rfl (by (try simp only [List.map_toArray, List.map_cons, List.map_nil]); first | done | rfl | (simp only [List.length_drop, List.length_take]; rfl)) ?_; (with_reducible refine (souklaw12_lives.calls k  false _ A3.out).mono ?_); rintro e w6 ⟨rfl, hb⟩; refine ⟨_, rfl, ?_⟩; have n0_ := Aside0.mk (below_step (by repeat (first | (with_reducible first | exact HB.out | apply below_alloc | apply pw_below_drewN | apply below_drew1) | exact HB.out)) hb); clear HB; have HB := n0_; clear n0_; (try clear hb); (try clear hb2); (try clear hk); (try clear hi)))
      go_meet
      case rel => exact ⟨_, (true), (by first | rfl | (simp; done) | (simp [*]; done)), H', ⟨by first | omega | exact Nat.le_refl _⟩, ⟨by repeat (first | (with_reducible first | exact HB.out | apply below_alloc | apply pw_below_drewN | apply below_drew1) | exact HB.out)⟩⟩
  case rest =>
    clear HC2
    try clear c1
    try clear p2
    try clear c3
    try clear c4
    obtain ⟨kq, x14_1, rfl, HA, HJ1, HB⟩ := hcut
    cases kq with
    | zero => exact absurd HA.out (by simp [souklaw12_PartRight.j0])
    | succ kj1 =>
      have H := HA.out
      clear HA
      simp only [souklaw12_PartRight.j0] at H
      by_cases c7 : x14_1 = true
      · subst c7
        have H1 : ((souklaw12_lives.f kj1).bind fun t561 => (some t561)) = some r := by rw [if_pos rfl] at H; exact H
        clear H
        have H := H1
        clear H1
        replace H := Option.bind_eq_some_iff.mp H
        obtain ⟨t561, A80, H⟩ := H
        replace H : (some t561) = some r := H
        have A8 := Aside0.mk A80
        clear A80
        obtain rfl := Option.some.inj H
        go_wp2_with (first | ((with_reducible refine gate_callee (f := 31) rfl ?_); refine goesL_ (some 15) rfl rfl Try.func31 (by kernel_rfl) rfl #[] rfl (by (try simp only [List.map_toArray, List.map_cons, List.map_nil]); first | done | rfl | (simp only [List.length_drop, List.length_take]; rfl)) ?_; (with_reducible refine (souklaw12_lives.calls kj1  t561 _ A8.out).mono ?_); rintro e w9 ⟨rfl, hb⟩; refine ⟨_, rfl, ?_⟩; have n0_ := Aside0.mk (below_step (by repeat (first | (with_reducible first | exact HB.out | apply below_alloc | apply pw_below_drewN | apply below_drew1) | exact HB.out)) hb); clear HB; have HB := n0_; clear n0_; (try clear hb); (try clear hb2); (try clear hk); (try clear hi)))
        go_ret
        exact ⟨by first | rfl | (simp [errW_none, errW_some] <;> rfl) | (simp [*, errW_none, errW_some] <;> rfl), by repeat (first | (with_reducible first | exact HB.out | apply below_alloc | apply pw_below_drewN | apply below_drew1) | exact HB.out)⟩
      · replace c7 := Bool.eq_false_iff.mpr c7
        subst c7
        have H1 : ((part_Right.f l0).bind fun t562 => ((soukref11_Parts.f kj1 1000 0 0 0 0 l0).bind fun bt563 => ((part_Of.f kj1 1000 0 0 0 0 l0).bind fun bt567 => (if t562 = bt563.2 then (some (bt567.2 == bt563.2)) else (some false))))) = some r := by rw [if_neg (show ¬ (false = true) by decide)] at H; exact H
        clear H
        have H := H1
        clear H1
        replace H := Option.bind_eq_some_iff.mp H
        obtain ⟨t562, A100, H⟩ := H
        replace H : ((soukref11_Parts.f kj1 1000 0 0 0 0 l0).bind fun bt563 => ((part_Of.f kj1 1000 0 0 0 0 l0).bind fun bt567 => (if t562 = bt563.2 then (some (bt567.2 == bt563.2)) else (some false)))) = some r := H
        have A10 := Aside0.mk A100
        clear A100
        replace H := Option.bind_eq_some_iff.mp H
        obtain ⟨⟨t563, t566⟩, A110, H⟩ := H
        replace H : ((part_Of.f kj1 1000 0 0 0 0 l0).bind fun bt567 => (if t562 = t566 then (some (bt567.2 == t566)) else (some false))) = some r := H
        have A11 := Aside0.mk A110
        clear A110
        replace H := Option.bind_eq_some_iff.mp H
        obtain ⟨⟨t567, t570⟩, A120, H⟩ := H
        replace H : (if t562 = t566 then (some (t570 == t566)) else (some false)) = some r := H
        have A12 := Aside0.mk A120
        clear A120
        by_cases c13 : t562 = t566
        · rw [if_pos c13] at H
          have c13b0 : (t562 == t566) = true := beq_iff_eq.mpr c13
          have c13b1 : (t562 != t566) = false := bne_eq_false_iff_eq.mpr c13
          clear c13
          obtain rfl := Option.some.inj H
          go_wp2_with (first | ((with_reducible refine gate_callee (f := 34) rfl ?_); refine goesL_ (some 17) rfl rfl Try.func34 (by kernel_rfl) rfl #[.slice A0 l0.length c0] rfl (by (try simp only [List.map_toArray, List.map_cons, List.map_nil]); first | done | rfl | (simp only [List.length_drop, List.length_take]; rfl)) ?_; (with_reducible refine (part_Right.calls _ _ l0 t562 _ ?side1 ?side2 A10.out).mono ?_); (case side1 => repeat (first | exact (Kd.C_below HR0.out HB.out) | (with_reducible refine Kd.C_alloc ?_ _) | (with_reducible refine Kd.C_drewN ?_ _) | (with_reducible refine Kd.C_drew ?_))); (case side2 => exact HC0.out); rintro e w14 ⟨rfl, hb⟩; refine ⟨_, rfl, ?_⟩; have n0_ := Aside0.mk (below_step (by repeat (first | (with_reducible first | exact HB.out | apply below_alloc | apply pw_below_drewN | apply below_drew1) | exact HB.out)) hb); clear HB; have HB := n0_; clear n0_; (try clear hb); (try clear hb2); (try clear hk); (try clear hi)) | ((with_reducible refine gate_callee (f := 33) rfl ?_); refine goesL_ (some 21) rfl rfl Try.func33 (by kernel_rfl) rfl #[.int .i64 1000, .agg #[.int .i64 0, .int .i64 0, .int .i64 0, .int .i64 0], .slice A0 l0.length c0] rfl (by (try simp only [List.map_toArray, List.map_cons, List.map_nil]); first | done | rfl | (simp only [List.length_drop, List.length_take]; rfl)) ?_; (with_reducible refine (soukref11_Parts.calls kj1 1000 0 0 0 0 _ _ l0 t563 t566 _ ?side1 ?side2 A11.out).mono ?_); (case side1 => repeat (first | exact (Kd.C_below HR0.out HB.out) | (with_reducible refine Kd.C_alloc ?_ _) | (with_reducible refine Kd.C_drewN ?_ _) | (with_reducible refine Kd.C_drew ?_))); (case side2 => exact HC0.out); rintro e w15 ⟨v564, rfl, ho0, hb⟩; refine ⟨_, rfl, ?_⟩; have n0_ := Aside0.mk (Kd.R_lower ho0 (below_size (by repeat (first | (with_reducible first | exact HB.out | apply below_alloc | apply pw_below_drewN | apply below_drew1) | exact HB.out)))); have n1_ := Aside0.mk (below_step (by repeat (first | (with_reducible first | exact HB.out | apply below_alloc | apply pw_below_drewN | apply below_drew1) | exact HB.out)) hb); clear HB; have HO565 := n0_; have HB := n1_; clear n0_ n1_; (try clear hb); (try clear hb2); (try clear hk); (try clear hi); (try clear ho0)) | ((with_reducible refine gate_callee (f := 32) rfl ?_); refine goesL_ (some 27) rfl rfl Try.func32 (by kernel_rfl) rfl #[.int .i64 1000, .agg #[.int .i64 0, .int .i64 0, .int .i64 0, .int .i64 0], .slice A0 l0.length c0] rfl (by (try simp only [List.map_toArray, List.map_cons, List.map_nil]); first | done | rfl | (simp only [List.length_drop, List.length_take]; rfl)) ?_; (with_reducible refine (part_Of.calls kj1 1000 0 0 0 0 _ _ l0 t567 t570 _ ?side1 ?side2 A12.out).mono ?_); (case side1 => repeat (first | exact (Kd.C_below HR0.out HB.out) | (with_reducible refine Kd.C_alloc ?_ _) | (with_reducible refine Kd.C_drewN ?_ _) | (with_reducible refine Kd.C_drew ?_))); (case side2 => exact HC0.out); rintro e w16 ⟨v568, rfl, ho0, hb⟩; refine ⟨_, rfl, ?_⟩; have n0_ := Aside0.mk (Kd.R_below (by (with_reducible repeat (first | apply Kd.R_alloc | apply Kd.R_drewN | apply Kd.R_drew)); exact HO565.out) hb); have n1_ := Aside0.mk (Kd.R_lower ho0 (below_size (by repeat (first | (with_reducible first | exact HB.out | apply below_alloc | apply pw_below_drewN | apply below_drew1) | exact HB.out)))); have n2_ := Aside0.mk (below_step (by repeat (first | (with_reducible first | exact HB.out | apply below_alloc | apply pw_below_drewN | apply below_drew1) | exact HB.out)) hb); clear HO565; clear HB; have HO565 := n0_; have HO569 := n1_; have HB := n2_; clear n0_ n1_ n2_; (try clear hb); (try clear hb2); (try clear hk); (try clear hi); (try clear ho0)))
          go_ret
          exact ⟨by first | rfl | (simp [errW_none, errW_some] <;> rfl) | (simp [*, errW_none, errW_some] <;> rfl), by repeat (first | (with_reducible first | exact HB.out | apply below_alloc | apply pw_below_drewN | apply below_drew1) | exact HB.out)⟩
        · rw [if_neg c13] at H
          have c13b0 : (t562 == t566) = false := beq_eq_false_iff_ne.mpr c13
          have c13b1 : (t562 != t566) = true := bne_iff_ne.mpr c13
          obtain rfl := Option.some.inj H
          go_wp2_with (first | ((with_reducible refine gate_callee (f := 34) rfl ?_); refine goesL_ (some 17) rfl rfl Try.func34 (by kernel_rfl) rfl #[.slice A0 l0.length c0] rfl (by (try simp only [List.map_toArray, List.map_cons, List.map_nil]); first | done | rfl | (simp only [List.length_drop, List.length_take]; rfl)) ?_; (with_reducible refine (part_Right.calls _ _ l0 t562 _ ?side1 ?side2 A10.out).mono ?_); (case side1 => repeat (first | exact (Kd.C_below HR0.out HB.out) | (with_reducible refine Kd.C_alloc ?_ _) | (with_reducible refine Kd.C_drewN ?_ _) | (with_reducible refine Kd.C_drew ?_))); (case side2 => exact HC0.out); rintro e w17 ⟨rfl, hb⟩; refine ⟨_, rfl, ?_⟩; have n0_ := Aside0.mk (below_step (by repeat (first | (with_reducible first | exact HB.out | apply below_alloc | apply pw_below_drewN | apply below_drew1) | exact HB.out)) hb); clear HB; have HB := n0_; clear n0_; (try clear hb); (try clear hb2); (try clear hk); (try clear hi)) | ((with_reducible refine gate_callee (f := 33) rfl ?_); refine goesL_ (some 21) rfl rfl Try.func33 (by kernel_rfl) rfl #[.int .i64 1000, .agg #[.int .i64 0, .int .i64 0, .int .i64 0, .int .i64 0], .slice A0 l0.length c0] rfl (by (try simp only [List.map_toArray, List.map_cons, List.map_nil]); first | done | rfl | (simp only [List.length_drop, List.length_take]; rfl)) ?_; (with_reducible refine (soukref11_Parts.calls kj1 1000 0 0 0 0 _ _ l0 t563 t566 _ ?side1 ?side2 A11.out).mono ?_); (case side1 => repeat (first | exact (Kd.C_below HR0.out HB.out) | (with_reducible refine Kd.C_alloc ?_ _) | (with_reducible refine Kd.C_drewN ?_ _) | (with_reducible refine Kd.C_drew ?_))); (case side2 => exact HC0.out); rintro e w18 ⟨v564, rfl, ho0, hb⟩; refine ⟨_, rfl, ?_⟩; have n0_ := Aside0.mk (Kd.R_lower ho0 (below_size (by repeat (first | (with_reducible first | exact HB.out | apply below_alloc | apply pw_below_drewN | apply below_drew1) | exact HB.out)))); have n1_ := Aside0.mk (below_step (by repeat (first | (with_reducible first | exact HB.out | apply below_alloc | apply pw_below_drewN | apply below_drew1) | exact HB.out)) hb); clear HB; have HO565 := n0_; have HB := n1_; clear n0_ n1_; (try clear hb); (try clear hb2); (try clear hk); (try clear hi); (try clear ho0)) | ((with_reducible refine gate_callee (f := 32) rfl ?_); refine goesL_ (some 27) rfl rfl Try.func32 (by kernel_rfl) rfl #[.int .i64 1000, .agg #[.int .i64 0, .int .i64 0, .int .i64 0, .int .i64 0], .slice A0 l0.length c0] rfl (by (try simp only [List.map_toArray, List.map_cons, List.map_nil]); first | done | rfl | (simp only [List.length_drop, List.length_take]; rfl)) ?_; (with_reducible refine (part_Of.calls kj1 1000 0 0 0 0 _ _ l0 t567 t570 _ ?side1 ?side2 A12.out).mono ?_); (case side1 => repeat (first | exact (Kd.C_below HR0.out HB.out) | (with_reducible refine Kd.C_alloc ?_ _) | (with_reducible refine Kd.C_drewN ?_ _) | (with_reducible refine Kd.C_drew ?_))); (case side2 => exact HC0.out); rintro e w19 ⟨v568, rfl, ho0, hb⟩; refine ⟨_, rfl, ?_⟩; have n0_ := Aside0.mk (Kd.R_below (by (with_reducible repeat (first | apply Kd.R_alloc | apply Kd.R_drewN | apply Kd.R_drew)); exact HO565.out) hb); have n1_ := Aside0.mk (Kd.R_lower ho0 (below_size (by repeat (first | (with_reducible first | exact HB.out | apply below_alloc | apply pw_below_drewN | apply below_drew1) | exact HB.out)))); have n2_ := Aside0.mk (below_step (by repeat (first | (with_reducible first | exact HB.out | apply below_alloc | apply pw_below_drewN | apply below_drew1) | exact HB.out)) hb); clear HO565; clear HB; have HO565 := n0_; have HO569 := n1_; have HB := n2_; clear n0_ n1_ n2_; (try clear hb); (try clear hb2); (try clear hk); (try clear hi); (try clear ho0)))
          go_ret
          exact ⟨by first | rfl | (simp [errW_none, errW_some] <;> rfl) | (simp [*, errW_none, errW_some] <;> rfl), by repeat (first | (with_reducible first | exact HB.out | apply below_alloc | apply pw_below_drewN | apply below_drew1) | exact HB.out)⟩
end Go.Proofs.Ytncnhhnbjmpomaa.Q
namespace Go.Proofs.Ytncnhhnbjmpomaa.Q
open Go.RowKit Go.Proofs.YtncnhhnbjmpomaaW.PrintWords Go.Proofs.Ytncnhhnbjmpomaa Go.Sort
set_option linter.unusedVariables false
set_option linter.unusedSimpArgs false
theorem pp_same (l : List S68) (hl : l.length ≤ 1000) : ∀ (d i : Nat), l.length - i = d → i ≤ l.length → EvT (fun k => part_Part.l0 k l l (l.length : Int) i) true
  | 0, i, hd, hi => EvT.done fun k => by simp only [part_Part.l0]; rw [if_neg (by omega)]
  | d + 1, i, hd, hi => by
    refine EvT.step (fun k => ?_) (pp_same l hl d (i + 1) (by omega) (by omega))
    simp only [part_Part.l0]
    rw [if_pos (by omega), if_pos (by omega), if_pos (by omega), if_pos (by omega), if_neg (by simp), nx i (by omega)]
theorem srt2 : srt #[⟨0, 1⟩, ⟨1, 2⟩] = #[⟨1, 2⟩, ⟨0, 1⟩] := by
  show insOuter (ltOf cf98) 0 2 1 _ = _
  rw [insOuter_go _ _ _ _ _ (by decide)]
  have h1 : insInner (ltOf cf98) 0 1 #[(⟨0, 1⟩ : S98), ⟨1, 2⟩] = #[⟨1, 2⟩, ⟨0, 1⟩] := by rfl
  rw [h1, insOuter_stop _ _ _ _ _ (by decide)]
def exL : List S106 := [⟨⟨#[97]⟩, 1⟩, ⟨⟨#[98]⟩, 2⟩]
theorem nets_ex : partsF 100 [1, 2] = [33, 67] := by
  unfold partsF
  have h1 : (restsF 100 [1, 2].sum 0 [1, 2]).toArray = #[⟨0, 1⟩, ⟨1, 2⟩] := by rfl
  rw [h1, srt2]; rfl
theorem right_ex : rightF exL = 0 := by
  have e1 : (⟨#[97]⟩ : ByteArray).toList = [97] := ByteArray.toList_eq _
  have e2 : (⟨#[98]⟩ : ByteArray).toList = [98] := ByteArray.toList_eq _
  have s1 : (⟨#[97]⟩ : ByteArray).size = 1 := rfl
  have s2 : (⟨#[98]⟩ : ByteArray).size = 1 := rfl
  have b1 : badS ⟨⟨#[97]⟩, 1⟩ = false := by unfold badS; simp [e1, s1]
  have b2 : badS ⟨⟨#[98]⟩, 2⟩ = false := by unfold badS; simp [e2, s2]
  have ne : ¬ (⟨#[98]⟩ : ByteArray) = ⟨#[97]⟩ := by intro h; injection h with h; simp at h
  unfold rightF exL
  rw [if_neg (by decide)]
  unfold rightL
  rw [b1, if_neg (by decide), if_neg (by simp)]
  unfold rightL
  rw [b2, if_neg (by decide), if_neg (by simp [ne])]
  rfl
theorem lives12_ok : EvT (fun k => souklaw12_lives.f k) true := by
  have h := of_ok 100 0 0 0 0 exL (by decide) ⟨by decide, by decide⟩ ⟨by decide, by decide⟩ ⟨by decide, by decide⟩
  have e : resE 100 0 0 0 exL = 0 := by
    unfold resE
    rw [if_neg (by unfold badC wrap64; decide), right_ex]
  have en : nets 100 0 0 exL = [33, 67] := nets_ex
  rw [if_pos e, en] at h
  have ez : List.zipWith (p68 0) exL [33, 67] = [⟨⟨#[97]⟩, 33, 0⟩, ⟨⟨#[98]⟩, 67, 0⟩] := by rfl
  rw [ez] at h
  have hs := pp_same [⟨⟨#[97]⟩, 33, 0⟩, ⟨⟨#[98]⟩, 67, 0⟩] (by decide) 2 0 rfl (by decide)
  unfold souklaw12_lives.f
  refine EvT.bind (F := fun k bt515 => if bt515.2 = 0 then (part_Part.f k bt515.1 ([(⟨(⟨#[97]⟩ : ByteArray), 33, 0⟩ : S68), (⟨(⟨#[98]⟩ : ByteArray), 67, 0⟩ : S68)] : List S68)).bind fun t522 => some t522 else some false) h ?_
  refine EvT.congr (fun k => if_pos rfl) (EvT.bind (F := fun k t => some t) ?_ (EvT.const _))
  refine EvT.congr (fun k => ?_) hs
  unfold part_Part.f
  rw [if_pos rfl]; rfl
theorem right_law (l : List S106) : ∃ k, souklaw12_PartRight.f k l = some true := by
  apply EvT.one
  unfold souklaw12_PartRight.f
  refine EvT.bind lives12_ok (EvT.congr (fun k => if_pos rfl) ?_)
  by_cases hl : 20 < l.length
  · have e : decide ((l.length : Int) > 20) = true := by simp; omega
    rw [e]
    refine EvT.step (g := fun k => (souklaw12_lives.f k).bind fun t => some t) (fun k => ?_) (EvT.bind (F := fun k t => some t) lives12_ok (EvT.const _))
    simp only [souklaw12_PartRight.j0]; rw [if_pos trivial]
  · have e : decide ((l.length : Int) > 20) = false := by simp; omega
    rw [e]
    have hz : inR 0 := ⟨by decide, by decide⟩
    have h1 := of_ok 1000 0 0 0 0 l (by omega) ⟨by decide, by decide⟩ hz hz
    have h2 := parts_ok 1000 0 0 0 0 l (by omega) ⟨by decide, by decide⟩ hz hz
    have er : resE 1000 0 0 0 l = rightF l := if_neg (by unfold badC wrap64; decide)
    rw [er] at h1 h2
    refine EvT.step (g := fun k => (soukref11_Parts.f k 1000 0 0 0 0 l).bind fun bt563 => (part_Of.f k 1000 0 0 0 0 l).bind fun bt567 => if rightF l = bt563.2 then some (bt567.2 == bt563.2) else some false) (fun k => ?_) (EvT.bind (F := fun k bt563 => (part_Of.f k 1000 0 0 0 0 l).bind fun bt567 => if rightF l = bt563.2 then some (bt567.2 == bt563.2) else some false) h2 (EvT.bind (F := fun k bt567 => if rightF l = _ then some (bt567.2 == _) else some false) h1 ?_))
    · simp only [souklaw12_PartRight.j0, part_Right.f, Option.bind_some]; rw [if_neg (by decide)]
    · have e2 : (if rightF l = 0 then (List.zipWith (p69 0) l (nets 1000 0 0 l), (0 : Int)) else ([], rightF l)).2 = rightF l := by split <;> simp_all
      have e3 : (if rightF l = 0 then (List.zipWith (p68 0) l (nets 1000 0 0 l), (0 : Int)) else ([], rightF l)).2 = rightF l := by split <;> simp_all
      rw [e2, e3]
      refine EvT.congr (fun k => ?_) (EvT.const true)
      rw [if_pos rfl]; simp
end Go.Proofs.Ytncnhhnbjmpomaa.Q
namespace Go.Proofs.Ytncnhhnbjmpomaa
open Go.RowKit Go.Proofs.Rk Go.Proofs.YtncnhhnbjmpomaaW.PrintWords
set_option linter.unusedVariables false
set_option linter.unusedSimpArgs false
theorem cellsOf_2 : Try.prog.cellsOf 2 = 1 := by kernel_rfl
theorem cellsOf_9 : Try.prog.cellsOf 9 = 1 := by kernel_rfl
theorem len_2 {cs : List Value} (h : cs.length = 2) : ∃ c0 c1, cs = [c0, c1] := by
  match cs, h with
  | [c0, c1], _ => exact ⟨c0, c1, rfl⟩
structure A58 where
  f0 : Int
  f1 : Int
  f2 : Int
  f3 : Int
def A58.l (a : A58) : List Value := [.int .i64 a.f0, .int .i64 a.f1, .int .i64 a.f2, .int .i64 a.f3]
structure A106 where
  f0 : ByteArray
  f1 : Int
def A106.l (a : A106) : List Value := [.string a.f0, .int .i64 a.f1]
def k106 : Kn Try.prog 106 A106 where
  cells := A106.l
  ok a := (Kn.str Try.underlying9).ok a.f0 ∧ (Kn.int Try.underlying2).ok a.f1
  rd := by
    intro H enc w base spare held fuel cs x h
    obtain ⟨xs, m, _, _, hlen, hxl, hg⟩ := DataW.trod_struct Try.underlying106 h
    have hlen' : cs.length = 2 := hlen.trans (by kernel_rfl)
    clear hlen h
    obtain ⟨c0, c1, rfl⟩ := len_2 hlen'
    clear hlen'
    obtain ⟨x0, g0⟩ := fld hg hxl 0 _ rfl 9 0 1 rfl rfl cellsOf_9
    obtain ⟨a0, e0, o0⟩ := (Kn.str Try.underlying9).rd g0
    have e0' : [c0] = [(.string a0 : Value)] := e0
    simp only [List.cons.injEq, and_true] at e0'
    obtain rfl := e0'
    obtain ⟨x1, g1⟩ := fld hg hxl 1 _ rfl 2 1 1 rfl rfl cellsOf_2
    obtain ⟨a1, e1, o1⟩ := (Kn.int Try.underlying2).rd g1
    have e1' : [c1] = [(.int .i64 a1 : Value)] := e1
    simp only [List.cons.injEq, and_true] at e1'
    obtain rfl := e1'
    exact ⟨⟨a0, a1⟩, rfl, ⟨o0, o1⟩⟩
def d106 : Kd A106 := Kp.plain 2 A106.l (fun _ => rfl) (by
  intro x u hu
  simp only [A106.l, List.mem_cons, List.not_mem_nil, or_false] at hu
  rcases hu with rfl | rfl <;> rfl)
end Go.Proofs.Ytncnhhnbjmpomaa
namespace Go.Proofs.Ytncnhhnbjmpomaa
open Go.RowKit Go.Proofs.Rk Go.Proofs.YtncnhhnbjmpomaaW.PrintWords
set_option linter.unusedVariables false
def toS (x : A106) : Q.S106 := ⟨x.f0, x.f1⟩
theorem C_toS {w : World} {A : Option Addr} {n : Nat} {xs : List A106} (h : Kd.C d106 w A n xs) : Kd.C Q.k106 w A n (xs.map toS) := by
  obtain ⟨h1, h2, h3⟩ := h
  refine ⟨by simpa using h1, h2, fun hn => ?_⟩
  obtain ⟨ad, e, hc⟩ := h3 hn
  refine ⟨ad, e, fun j q hj => ?_⟩
  rw [List.getElem?_map] at hj
  cases hx : xs[j]? with
  | none => rw [hx] at hj; cases hj
  | some x =>
    rw [hx] at hj
    cases hj
    obtain ⟨c, hc1, hc2, hc3⟩ := hc j x hx
    obtain rfl : c = A106.l x := hc2
    exact ⟨A106.l x, rfl, Q.k106_mk w (toS x), hc3⟩
theorem walk10 (ad : Option Addr) (xs : List A106) (cap : Nat) (w : World) (h : RdSl w k106.cells k106.ok 2 ad xs cap) (hs : xs.length * 24 ≤ 140737488351232) :
    Calls Try.prog 10 #[.slice ad xs.length cap] w fun e w' => e = .returned (.bool true) ∧ Below w.heap.size w w' := by
  obtain ⟨k, hk⟩ := Q.right_law (xs.map toS)
  have hC : Kd.C d106 w ad xs.length xs := Kp.C_of_rd (by decide) h
  have := Q.souklaw12_PartRight.calls k ad cap (xs.map toS) true w (by rw [List.length_map]; exact C_toS hC) (by rw [List.length_map]; exact Kp.cap_of_rd h) hk
  rw [List.length_map] at this
  exact this
end Go.Proofs.Ytncnhhnbjmpomaa
