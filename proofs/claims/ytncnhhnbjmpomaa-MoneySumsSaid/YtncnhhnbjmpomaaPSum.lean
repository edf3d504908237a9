/- Sums and differences of amounts: the reference's, and the law. -/
import Derived.Test.YtncnhhnbjmpomaaQ3
import Derived.Test.YtncnhhnbjmpomaaPLv
namespace Go.Proofs.Ytncnhhnbjmpomaa.Q
open Go.RowKit Go.Proofs.YtncnhhnbjmpomaaW.PrintWords Go.Proofs.YtncnhhnbjmpomaaW.PrintLast Go.Proofs.YtncnhhnbjmpomaaW.PrintMore Go.Proofs.Ytncnhhnbjmpomaa
set_option linter.unusedVariables false
set_option linter.unusedSimpArgs false
theorem radd_ok (a b : Int) (ha : inR a) (hb : inR b) (k : Nat) : soukref01_Add.f (k + 1) a b = some (if -9223372036854775808 ≤ a + b ∧ a + b ≤ 9223372036854775807 then (a + b, true) else (0, false)) := by
  unfold inR at ha hb
  unfold soukref01_Add.f
  by_cases hp : b > 0
  · rw [if_pos hp, w64i (x := 9223372036854775807 - b) (by omega) (by omega)]
    simp only [soukref01_Add.j0]
    by_cases ho : a > 9223372036854775807 - b
    · rw [if_pos (by simpa using ho), if_neg (by omega)]
    · rw [if_neg (by simpa using ho), if_neg (by omega), w64i (by omega) (by omega), if_pos ⟨by omega, by omega⟩]
  · rw [if_neg hp]
    simp only [soukref01_Add.j0]
    rw [if_neg (by decide)]
    by_cases hn : b < 0
    · rw [if_pos hn, w64i (x := -9223372036854775808 - b) (by omega) (by omega)]
      by_cases ho : a < -9223372036854775808 - b
      · rw [if_pos ho, if_neg (by omega)]
      · rw [if_neg ho, w64i (by omega) (by omega), if_pos ⟨by omega, by omega⟩]
    · have h0 : b = 0 := by omega
      subst h0
      rw [if_neg (by decide), w64i (by omega) (by omega), if_pos ⟨by omega, by omega⟩]
def sumR (a : Int × Int) : Int × Bool := if a.2 = 0 then (a.1, true) else (0, false)
theorem rsum_from (l : List Int) (hl : ∀ x ∈ l, inR x) (hlen : l.length ≤ 1000000000000) : ∀ (d i : Nat) (s : Int), l.length - i = d → i ≤ l.length → inR s →
    ∃ m, ∀ k, soukref01_Sum.l0 (k + m) l s i = some (sumR (addF s (l.drop i))) := by
  intro d
  induction d with
  | zero =>
    intro i s hd hi hs
    have e : i = l.length := by omega
    subst e
    refine ⟨1, fun k => ?_⟩
    simp only [soukref01_Sum.l0]
    rw [if_neg (by omega), List.drop_length]; rfl
  | succ d ih =>
    intro i s hd hi hs
    have hlt : i < l.length := by omega
    have c1 : (i : Int) < (l.length : Int) := by omega
    have c2 : (0 : Int) ≤ (i : Int) := Int.natCast_nonneg i
    have c3 : (0 : Int) < (l.length : Int) := by omega
    have hx := hl l[i] (List.getElem_mem hlt)
    have hdr : l.drop i = l[i] :: l.drop (i + 1) := (List.getElem_cons_drop (h := hlt)).symm
    have HW : Hid (wrap64 ((i : Int) + 1) = ((i + 1 : Nat) : Int)) := by show _ = _; rw [w64i (by omega) (by omega)]; rfl
    rw [hdr]
    simp only [addF]
    by_cases hr : -9223372036854775808 ≤ s + l[i] ∧ s + l[i] ≤ 9223372036854775807
    · obtain ⟨m, hm⟩ := ih (i + 1) (s + l[i]) (by omega) (by omega) hr
      refine ⟨m + 2, fun k => ?_⟩
      obtain ⟨K, hK⟩ : ∃ K, K = k + m + 1 := ⟨_, rfl⟩
      have e : k + (m + 2) = K + 1 := by omega
      rw [e]
      simp only [soukref01_Sum.l0]
      have hadd := radd_ok s l[i] hs hx (k + m)
      rw [if_pos hr, ← hK] at hadd
      rw [if_pos c1, if_pos c2, rd_at l i hlt, hadd]
      have h2 : (if -9223372036854775808 ≤ s + l[i] ∧ s + l[i] ≤ 9223372036854775807 then addF (s + l[i]) (List.drop (i + 1) l) else (0, 2)) = addF (s + l[i]) (List.drop (i + 1) l) := if_pos hr
      rw [h2]
      simp only [Option.bind_some]
      rw [if_pos trivial, HW.out]
      have := hm (k + 1)
      rw [show k + 1 + m = K by omega] at this
      exact this
    · refine ⟨2, fun k => ?_⟩
      obtain ⟨K, hK⟩ : ∃ K, K = k + 1 := ⟨_, rfl⟩
      have e : k + 2 = K + 1 := by omega
      rw [e]
      simp only [soukref01_Sum.l0]
      have hadd := radd_ok s l[i] hs hx k
      rw [if_neg hr, ← hK] at hadd
      rw [if_pos c1, if_pos c2, rd_at l i hlt, hadd]
      have h2 : (if -9223372036854775808 ≤ s + l[i] ∧ s + l[i] ≤ 9223372036854775807 then addF (s + l[i]) (List.drop (i + 1) l) else (0, 2)) = (0, 2) := if_neg hr
      rw [h2]
      simp only [Option.bind_some]
      rw [if_neg (by decide)]
      unfold sumR
      rw [if_neg (by decide)]
theorem rsum_ok (l : List Int) (hl : ∀ x ∈ l, inR x) (hlen : l.length ≤ 1000000000000) : ∃ m, ∀ k, soukref01_Sum.f (k + m) l = some (sumR (addF 0 l)) := by
  obtain ⟨m, hm⟩ := rsum_from l hl hlen l.length 0 0 (by omega) (Nat.zero_le _) ⟨by decide, by decide⟩
  exact ⟨m, fun k => by unfold soukref01_Sum.f; exact hm k⟩
theorem addF_alt : ∀ (l : List Int) (s : Int), (addF s l).2 = 0 ∨ addF s l = (0, 2)
  | [], s => .inl rfl
  | x :: l, s => by
    simp only [addF]
    split
    · exact addF_alt l _
    · exact .inr rfl
theorem is_ok (a : Int × Int) (h : a.2 = 0 ∨ a = (0, 2)) : souklaw01_is.f a.1 a.2 (sumR a).1 (sumR a).2 = some true := by
  unfold souklaw01_is.f sumR
  rcases h with h | h
  · rw [if_pos h]; simp [h]
  · subst h; rfl
def subF (a b : Int) : Int × Int := if -9223372036854775808 ≤ a - b ∧ a - b ≤ 9223372036854775807 then (a - b, 0) else (0, 2)
theorem sub_ok (a b : Int) (ha : inR a) (hb : inR b) : money_Sub.f a b = some (subF a b) := by
  unfold inR at ha hb
  unfold money_Sub.f subF
  by_cases hr : -9223372036854775808 ≤ a - b ∧ a - b ≤ 9223372036854775807
  · rw [if_pos hr, w64i hr.1 hr.2]
    by_cases h0 : b = 0
    · rw [if_pos h0]; split <;> rfl
    · have : (decide (a - b < a) != decide (b > 0)) = false := by
        by_cases hp : b > 0
        · have : a - b < a := by omega
          simp [hp, this]
        · have : ¬ a - b < a := by omega
          simp [hp, this]
      rw [this, if_neg (by decide)]
  · have hne : ¬ b = 0 := by intro h; apply hr; omega
    have : (decide (wrap64 (a - b) < a) != decide (b > 0)) = true := by
      by_cases hp : b > 0
      · have : ¬ wrap64 (a - b) < a := by unfold wrap64; omega
        simp [hp, this]
      · have : wrap64 (a - b) < a := by unfold wrap64; omega
        simp [hp, this]
    rw [if_neg hr, this, if_pos rfl, if_neg hne]
theorem rsub_ok (a b : Int) (ha : inR a) (hb : inR b) (k : Nat) : soukref01_Sub.f (k + 1) a b = some (sumR (subF a b)) := by
  unfold inR at ha hb
  unfold soukref01_Sub.f subF sumR
  by_cases h : b = -9223372036854775808
  · subst h
    rw [if_pos rfl]
    by_cases h0 : a ≥ 0
    · have hc : ¬ (-9223372036854775808 ≤ a - -9223372036854775808 ∧ a - -9223372036854775808 ≤ 9223372036854775807) := by omega
      rw [if_pos h0, if_neg hc]; rfl
    · have hc : -9223372036854775808 ≤ a - -9223372036854775808 ∧ a - -9223372036854775808 ≤ 9223372036854775807 := by omega
      rw [if_neg h0, if_pos hc, w64i hc.1 hc.2]; rfl
  · rw [if_neg h, w64i (x := -b) (by omega) (by omega), radd_ok a (-b) ha ⟨by omega, by omega⟩]
    have e : a + -b = a - b := by omega
    rw [e]
    simp only [Option.bind_some]
    split <;> rfl
theorem sums_loop (l : List Int) (hl : ∀ x ∈ l, inR x) (hlen : l.length ≤ 1000000000000) : ∀ (d i : Nat), l.length - i = d → i ≤ l.length →
    ∃ m, ∀ k, souklaw01_MoneySums.l0 (k + m) l l.length i = some true := by
  intro d
  induction d with
  | zero =>
    intro i hd hi
    refine ⟨1, fun k => ?_⟩
    simp only [souklaw01_MoneySums.l0]
    rw [if_neg (by omega)]
  | succ d ih =>
    intro i hd hi
    have hlt : i < l.length := by omega
    have c1 : (i : Int) < (l.length : Int) := by omega
    have c2 : (0 : Int) ≤ (i : Int) := Int.natCast_nonneg i
    have c3 : (0 : Int) < (l.length : Int) := by omega
    have HW : Hid (wrap64 ((i : Int) + 1) = ((i + 1 : Nat) : Int)) := by show _ = _; rw [w64i (by omega) (by omega)]; rfl
    obtain ⟨m, hm⟩ := ih (i + 1) (by omega) (by omega)
    refine ⟨m + 2, fun k => ?_⟩
    obtain ⟨K, hK⟩ : ∃ K, K = k + m + 1 := ⟨_, rfl⟩
    have e : k + (m + 2) = K + 1 := by omega
    rw [e]
    simp only [souklaw01_MoneySums.l0]
    have h00 : rd l 0 = l[0] := rd_at l 0 (by omega)
    have ha := hl l[0] (List.getElem_mem (by omega))
    have hb := hl l[i] (List.getElem_mem hlt)
    have hs1 := sub_ok l[0] l[i] ha hb
    have hs2 := rsub_ok l[0] l[i] ha hb (k + m)
    rw [← hK] at hs2
    have hs3 := is_ok (subF l[0] l[i]) (by unfold subF; split; exact .inl rfl; exact .inr rfl)
    have hs4 := hm (k + 1)
    rw [show k + 1 + m = K by omega] at hs4
    rw [if_pos c1, if_pos c3, if_pos c2, if_pos c1, h00, rd_at l i hlt, hs1, hs2]
    generalize subF l[0] l[i] = z at *
    simp only [Option.bind_some]
    rw [hs3]
    simp only [Option.bind_some]
    rw [if_pos trivial, HW.out]
    exact hs4
theorem lit_inR {x : Int} (h : (Lit.int .i64 x).wf = true) : inR x := bounds_i64 h
theorem sums_ok : souklaw01_MoneySums.Pure := by
  intro l h1 h2 h3
  have hl : ∀ x ∈ l, inR x := fun x hx => lit_inR (h3 x hx)
  have hlen : l.length ≤ 1000000000000000 := by omega
  obtain ⟨m1, hm1⟩ := lives01_ok
  by_cases h200 : (l.length : Int) > 200
  · refine ⟨m1 + 1, ?_⟩
    unfold souklaw01_MoneySums.f
    have := hm1 1
    rw [Nat.add_comm] at this
    rw [this]
    simp only [Option.bind_some]
    rw [if_pos trivial]
    simp only [souklaw01_MoneySums.j0]
    rw [if_pos (by simpa using h200)]
    have := hm1 0
    rw [Nat.zero_add] at this
    rw [this]; rfl
  · obtain ⟨m2, hm2⟩ := add_ok l hl (by omega)
    obtain ⟨m3, hm3⟩ := rsum_ok l hl (by omega)
    obtain ⟨m4, hm4⟩ := sums_loop l hl (by omega) l.length 0 (by omega) (by omega)
    refine ⟨m1 + m2 + m3 + m4 + 1, ?_⟩
    unfold souklaw01_MoneySums.f
    have := hm1 (m2 + m3 + m4 + 1)
    rw [show m2 + m3 + m4 + 1 + m1 = m1 + m2 + m3 + m4 + 1 by omega] at this
    rw [this]
    simp only [Option.bind_some]
    rw [if_pos trivial]
    simp only [souklaw01_MoneySums.j0]
    rw [if_neg (by simpa using h200)]
    have e2 := hm2 (m1 + m3 + m4)
    rw [show m1 + m3 + m4 + m2 = m1 + m2 + m3 + m4 by omega] at e2
    have e3 := hm3 (m1 + m2 + m4)
    rw [show m1 + m2 + m4 + m3 = m1 + m2 + m3 + m4 by omega] at e3
    have e4 := hm4 (m1 + m2 + m3)
    rw [show m1 + m2 + m3 + m4 = m1 + m2 + m3 + m4 by omega] at e4
    rw [e2, e3]
    simp only [Option.bind_some]
    rw [is_ok _ (addF_alt l 0)]
    simp only [Option.bind_some]
    rw [if_pos trivial]
    exact e4
end Go.Proofs.Ytncnhhnbjmpomaa.Q
