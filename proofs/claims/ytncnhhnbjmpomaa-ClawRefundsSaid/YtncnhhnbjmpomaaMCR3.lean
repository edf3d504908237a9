/- What the statement leans on, part 3: functions of the program and of the reference as Lean functions, their contracts, and plain laws. -/
import Derived.Laws.StructEq
import Derived.MapKept
import Derived.Carry
import Derived.Maps.OwnSet
import Derived.Test.YtncnhhnbjmpomaaMCR2
namespace Go.Proofs.Ytncnhhnbjmpomaa.Q
open Go.RowKit Go.Proofs.YtncnhhnbjmpomaaW.PrintWords Go.Proofs.YtncnhhnbjmpomaaW.PrintLast Go.Proofs.YtncnhhnbjmpomaaW.PrintMore
set_option linter.unusedVariables false
set_option linter.unusedSimpArgs false
def bor (x y w : Bool) : Bool := (!x && (y || w)) || (y && w)
theorem sub3 (x y w : Bool) : bv ((x != y) != w) + bv y + bv w = bv x + 2 * bv (bor x y w) := by cases x <;> cases y <;> cases w <;> decide
theorem minus_go (a b out : List Bool) (c : Bool) (i : Nat) (hi : i < a.length) (ha : a.length ≤ 100000) (ho : out.length < 1000000) (k : Nat) :
    soukref01_minus.l0 (k + 1) a b out c (i : Int) = soukref01_minus.l0 k a b (out ++ [((bat a i) != (bat b i)) != c]) (bor (bat a i) (bat b i) c) ((i + 1 : Nat) : Int) := by
  simp only [soukref01_minus.l0]
  rw [if_pos (by omega), at_ok, at_ok]
  simp only [Option.bind_some]
  rw [nx i (by omega)]
  have hl : out.length < 140737488355328 := by omega
  cases bat a i <;> cases bat b i <;> cases c <;> simp [hl, bor]
theorem minus_from (a b : List Bool) (ha : a.length ≤ 100000) : ∀ (d i : Nat) (out : List Bool) (c : Bool), a.length - i = d → out.length = i → i ≤ a.length →
    val out + val (b.take i) = val (a.take i) + 2 ^ i * bv c → ∃ r c', EvT (fun k => soukref01_minus.l0 k a b out c (i : Int)) (trimF r) ∧ r.length = a.length ∧ val r + val (b.take a.length) = val a + 2 ^ a.length * bv c' := by
  intro d
  induction d with
  | zero =>
    intro i out c hd ho hi hv
    have e : i = a.length := by omega
    subst e
    rw [List.take_length] at hv
    refine ⟨out, c, EvT.step (g := fun k => (soukref01_trim.f k out).bind fun t => some t) (fun k => ?_) ?_, ho, hv⟩
    · simp only [soukref01_minus.l0]
      rw [if_neg (by omega)]
    · exact EvT.bind (F := fun _ t => some t) (trim_ok out (by omega)) (EvT.const _)
  | succ d ih =>
    intro i out c hd ho hi hv
    obtain ⟨r, c', h1, h2⟩ := ih (i + 1) (out ++ [((bat a i) != (bat b i)) != c]) (bor (bat a i) (bat b i) c) (by omega) (by simp [ho]) (by omega) (by
      have h3 := sub3 (bat a i) (bat b i) c
      rw [val_snoc, ho, val_take_succ, val_take_succ, Nat.pow_succ]
      generalize bat a i = x at *
      generalize bat b i = y at *
      generalize 2 ^ i = p at *
      cases x <;> cases y <;> cases c <;> simp [bv, bor] at hv ⊢ <;> omega)
    exact ⟨r, c', EvT.step (fun k => minus_go a b out c i (by omega) ha (by omega) k) h1, h2⟩
theorem val_take_lt (b : List Bool) (n : Nat) (h : val b < 2 ^ n) : val (b.take n) = val b := by
  by_cases hn : b.length ≤ n
  · exact val_take_all b n hn
  · have h1 := val_split b n (by omega)
    have : val (b.drop n) = 0 := by
      apply Classical.byContradiction
      intro h0
      have : 2 ^ n * 1 ≤ 2 ^ n * val (b.drop n) := Nat.mul_le_mul_left _ (by omega)
      omega
    rw [this] at h1; simpa using h1.symm
theorem minus_ok (a b : List Bool) (ha : a.length ≤ 100000) (hle : val b ≤ val a) : ∃ r, EvT (fun k => soukref01_minus.f k a b) (trimF r) ∧ val r = val a - val b ∧ r.length = a.length := by
  obtain ⟨r, c, h1, h2, h3⟩ := minus_from a b ha _ 0 [] false rfl rfl (by omega) (by simp [val, bv])
  refine ⟨r, h1, ?_, h2⟩
  have hA := val_lt a
  have hr := val_lt r
  rw [h2] at hr
  rw [val_take_lt b a.length (by omega)] at h3
  cases c with
  | false => simp [bv] at h3; omega
  | true => simp [bv] at h3; omega
theorem drop_bat (b : List Bool) (j : Nat) (h : j < b.length) : b.drop j = bat b j :: b.drop (j + 1) := by
  rw [← List.getElem_cons_drop (h := h)]
  unfold bat; rw [List.getD_eq_getElem?_getD, List.getElem?_eq_getElem h]; rfl
theorem times_from (a b : List Bool) (ha : a.length ≤ 1000) (hb : b.length ≤ 1000) : ∀ (j : Nat) (out : List Bool), j ≤ b.length → out.length ≤ 10000 + (b.length - j) * 2 → val out = val a * val (b.drop j) →
    ∃ r, EvT (fun k => soukref01_Times.l0 k a b out ((j : Int) - 1)) (trimF r) ∧ val r = val a * val b ∧ r.length ≤ 20000
  | 0, out, _, ho, hv => by
    refine ⟨out, EvT.step (g := fun k => (soukref01_trim.f k out).bind fun t => some t) (fun k => ?_) ?_, by simpa using hv, by omega⟩
    · simp only [soukref01_Times.l0]
      rw [if_neg (by omega)]
    · exact EvT.bind (F := fun _ t => some t) (trim_ok out (by omega)) (EvT.const _)
  | j + 1, out, hj, ho, hv => by
    have e : ((j + 1 : Nat) : Int) - 1 = (j : Int) := by omega
    have hlt : j < b.length := by omega
    have hd := drop_bat b j hlt
    rw [e]
    cases hb1 : bat b j with
    | false =>
      have hv2 : val (false :: out) = val a * val (b.drop j) := by
        rw [hd, hb1]; simp only [val, bv]; rw [hv]; simp [Nat.mul_left_comm]
      obtain ⟨r, h1, h2⟩ := times_from a b ha hb j (false :: out) (by omega) (by simp; omega) hv2
      refine ⟨r, EvT.step (fun k => ?_) h1, h2⟩
      simp only [soukref01_Times.l0]
      rw [if_pos (by omega)]
      simp only [Option.bind_some, List.length_cons, List.length_nil, List.cons_append, List.nil_append]
      rw [if_pos (by omega), if_pos (by omega), if_pos (by omega), rdOf_at, if_neg (by rw [hb1]; decide), pv1 j (by omega)]
    | true =>
      obtain ⟨s, hs1, hs2, hs3⟩ := plus_ok (false :: out) a (by simp; omega) (by omega)
      have hv2 : val s = val a * val (b.drop j) := by
        rw [hd, hb1, hs2]; simp only [val, bv]; rw [hv]; simp [Nat.mul_add, Nat.mul_left_comm]; omega
      obtain ⟨r, h1, h2⟩ := times_from a b ha hb j s (by omega) (by simp at hs3; omega) hv2
      refine ⟨r, EvT.step (g := fun k => (soukref01_Plus.f k (false :: out) a).bind fun t => soukref01_Times.l0 k a b t ((j : Int) - 1)) (fun k => ?_) (EvT.bind (F := fun k t => soukref01_Times.l0 k a b t ((j : Int) - 1)) hs1 h1), h2⟩
      simp only [soukref01_Times.l0]
      rw [if_pos (by omega)]
      simp only [Option.bind_some, List.length_cons, List.length_nil, List.cons_append, List.nil_append]
      rw [if_pos (by omega), if_pos (by omega), if_pos (by omega), rdOf_at, if_pos hb1, pv1 j (by omega)]
theorem times_ok (a b : List Bool) (ha : a.length ≤ 1000) (hb : b.length ≤ 1000) : ∃ r, EvT (fun k => soukref01_Times.f k a b) (trimF r) ∧ val r = val a * val b ∧ r.length ≤ 20000 := by
  obtain ⟨r, h1, h2⟩ := times_from a b ha hb b.length [] (Nat.le_refl _) (by simp) (by simp [val])
  refine ⟨r, EvT.congr (fun k => ?_) h1, h2⟩
  unfold soukref01_Times.f
  rw [pv1 _ (by omega)]
theorem trimF_idem : ∀ l : List Bool, trimF (trimF l) = trimF l
  | [] => rfl
  | b :: l => by
    have ih := trimF_idem l
    by_cases h : b = false ∧ trimF l = []
    · have : trimF (b :: l) = [] := by unfold trimF; rw [if_pos h]
      rw [this]; rfl
    · have e : trimF (b :: l) = b :: trimF l := by rw [trimF, if_neg h]
      rw [e, trimF, ih, if_neg h]
theorem canon_len (r b : List Bool) (hc : r = trimF r) (hlt : val r < val b) : r.length ≤ (trimF b).length := by
  by_cases h : r = []
  · rw [h]; simp
  · have h1 := trimF_pow r (by rw [← hc]; exact h)
    rw [← hc] at h1
    have h2 := val_lt (trimF b)
    rw [trimF_val] at h2
    apply Classical.byContradiction
    intro h3
    have : 2 ^ (trimF b).length ≤ 2 ^ (r.length - 1) := Nat.pow_le_pow_right (by decide) (by omega)
    omega
theorem div_from (a b : List Bool) (ha : a.length ≤ 30000) (hb : b.length ≤ 1000) (h0 : 0 < val b) : ∀ (j : Nat) (quo rem : List Bool), j ≤ a.length → quo.length ≤ a.length - j → val rem < val b → rem = trimF rem →
    val (a.drop j) = val quo * val b + val rem →
    ∃ q r, EvT (fun k => soukref01_Div.l0 k a b quo rem ((j : Int) - 1)) (trimF q, r) ∧ val q = val a / val b ∧ val r = val a % val b ∧ r = trimF r
  | 0, quo, rem, _, hq, hlt, hc, hv => by
    refine ⟨quo, rem, EvT.step (g := fun k => (soukref01_trim.f k quo).bind fun t => some (t, rem)) (fun k => ?_) ?_, ?_, ?_, hc⟩
    · simp only [soukref01_Div.l0]
      rw [if_neg (by omega)]
    · exact EvT.bind (F := fun _ t => some (t, rem)) (trim_ok quo (by omega)) (EvT.const _)
    · rw [List.drop_zero] at hv
      rw [hv, Nat.add_comm, Nat.add_mul_div_right _ _ h0, Nat.div_eq_of_lt hlt, Nat.zero_add]
    · rw [List.drop_zero] at hv
      rw [hv, Nat.add_comm, Nat.add_mul_mod_self_right, Nat.mod_eq_of_lt hlt]
  | j + 1, quo, rem, hj, hq, hlt, hc, hv => by
    have hr : rem.length ≤ 1000 := Nat.le_trans (canon_len rem b hc hlt) (Nat.le_trans (trimF_len b) hb)
    have e : ((j + 1 : Nat) : Int) - 1 = (j : Int) := by omega
    have hla : j < a.length := by omega
    have hd := drop_bat a j hla
    rw [e]
    -- the rest with one bit more
    have ht := trim_ok (bat a j :: rem) (by simp; omega)
    have htv : val (trimF (bat a j :: rem)) = bv (bat a j) + 2 * val rem := by rw [trimF_val]; rfl
    have htl := trimF_len (bat a j :: rem)
    have hL := less_ok (trimF (bat a j :: rem)) b (by simp at htl; omega) (by omega)
    rw [htv] at hL
    have hvd : val (a.drop j) = bv (bat a j) + 2 * (val quo * val b + val rem) := by rw [hd]; simp only [val, hv]
    have hgo : ∀ k, soukref01_Div.l0 (k + 1) a b quo rem (j : Int) = (soukref01_trim.f k (bat a j :: rem)).bind fun t205 => (soukref01_less.f k t205 b).bind fun t208 => if t208 = true then soukref01_Div.l0 k a b ((!t208) :: quo) t205 ((j : Int) - 1) else (soukref01_minus.f k t205 b).bind fun t215 => soukref01_Div.l0 k a b ((!t208) :: quo) t215 ((j : Int) - 1) := fun k => by
      simp only [soukref01_Div.l0]
      rw [if_pos (by omega), if_pos (by omega), if_pos (by omega), rdOf_at]
      simp only [Option.bind_some, List.length_cons, List.length_nil, List.cons_append, List.nil_append]
      have hq1 : 0 + 1 + quo.length < 140737488355328 := by omega
      rw [if_pos (by omega), pv1 j (by omega)]
      simp only [if_pos hq1]
    by_cases hl : bv (bat a j) + 2 * val rem < val b
    · rw [decide_eq_true hl] at hL
      obtain ⟨q, r, h1, h2⟩ := div_from a b ha hb h0 j (false :: quo) (trimF (bat a j :: rem)) (by omega) (by simp; omega) (by rw [htv]; exact hl) (trimF_idem _).symm (by
        rw [hvd, htv]
        show _ = (0 + 2 * val quo) * val b + _
        rw [Nat.zero_add, Nat.mul_assoc]; omega)
      refine ⟨q, r, EvT.step hgo (EvT.bind (F := fun k t205 => (soukref01_less.f k t205 b).bind fun t208 => if t208 = true then soukref01_Div.l0 k a b ((!t208) :: quo) t205 ((j : Int) - 1) else (soukref01_minus.f k t205 b).bind fun t215 => soukref01_Div.l0 k a b ((!t208) :: quo) t215 ((j : Int) - 1)) ht (EvT.bind (F := fun k t208 => if t208 = true then soukref01_Div.l0 k a b ((!t208) :: quo) (trimF (bat a j :: rem)) ((j : Int) - 1) else (soukref01_minus.f k (trimF (bat a j :: rem)) b).bind fun t215 => soukref01_Div.l0 k a b ((!t208) :: quo) t215 ((j : Int) - 1)) hL (EvT.congr (fun k => if_pos rfl) h1))), h2⟩
    · rw [decide_eq_false hl] at hL
      obtain ⟨m, hm1, hm2, hm3⟩ := minus_ok (trimF (bat a j :: rem)) b (by simp at htl; omega) (by rw [htv]; omega)
      rw [htv] at hm2
      have hbv := bv_le (bat a j)
      obtain ⟨q, r, h1, h2⟩ := div_from a b ha hb h0 j (true :: quo) (trimF m) (by omega) (by simp; omega) (by rw [trimF_val, hm2]; omega) (trimF_idem _).symm (by
        rw [hvd, trimF_val, hm2]
        show _ = (1 + 2 * val quo) * val b + _
        rw [Nat.add_mul, Nat.one_mul, Nat.mul_assoc]; omega)
      refine ⟨q, r, EvT.step hgo (EvT.bind (F := fun k t205 => (soukref01_less.f k t205 b).bind fun t208 => if t208 = true then soukref01_Div.l0 k a b ((!t208) :: quo) t205 ((j : Int) - 1) else (soukref01_minus.f k t205 b).bind fun t215 => soukref01_Div.l0 k a b ((!t208) :: quo) t215 ((j : Int) - 1)) ht (EvT.bind (F := fun k t208 => if t208 = true then soukref01_Div.l0 k a b ((!t208) :: quo) (trimF (bat a j :: rem)) ((j : Int) - 1) else (soukref01_minus.f k (trimF (bat a j :: rem)) b).bind fun t215 => soukref01_Div.l0 k a b ((!t208) :: quo) t215 ((j : Int) - 1)) hL (EvT.congr (fun k => if_neg (by decide)) (EvT.bind (F := fun k t215 => soukref01_Div.l0 k a b ((!false) :: quo) t215 ((j : Int) - 1)) hm1 h1)))), h2⟩
theorem div_ok (a b : List Bool) (ha : a.length ≤ 30000) (hb : b.length ≤ 1000) (h0 : 0 < val b) : ∃ q r, EvT (fun k => soukref01_Div.f k a b) (trimF q, r) ∧ val q = val a / val b ∧ val r = val a % val b ∧ r = trimF r := by
  obtain ⟨q, r, h1, h2⟩ := div_from a b ha hb h0 a.length [] [] (Nat.le_refl _) (by simp) (by simpa [val] using h0) rfl (by simp [val])
  refine ⟨q, r, EvT.congr (fun k => ?_) h1, h2⟩
  unfold soukref01_Div.f
  rw [pv1 _ (by omega)]
def valF (v : Nat) (neg : Bool) : Int × Bool :=
  if neg = true then (if v ≤ 9223372036854775808 then (-(v : Int), true) else (0, false)) else if v < 9223372036854775808 then ((v : Int), true) else (0, false)
theorem value_from (a : List Bool) (neg : Bool) (ha : a.length ≤ 64) : ∀ (j : Nat), j ≤ a.length → EvT (fun k => soukref01_value.l0 k a neg (val (a.drop j) : Nat) ((j : Int) - 1)) (valF (val a) neg)
  | 0, _ => by
    rw [List.drop_zero]
    have hv : val a < 18446744073709551616 := Nat.lt_of_lt_of_le (val_lt a) (Nat.pow_le_pow_right (by decide) ha)
    generalize val a = v at *
    cases neg with
    | true =>
      refine EvT.step (g := fun k => soukref01_value.j1 k true (v : Int) (decide ((v : Int) ≤ 9223372036854775808))) (fun k => ?_) (EvT.done (fun k => ?_))
      · simp only [soukref01_value.l0]
        rw [if_neg (by omega), if_pos trivial]
      · simp only [soukref01_value.j1]
        unfold valF
        rw [if_pos rfl]
        by_cases h : v ≤ 9223372036854775808
        · rw [if_pos (by simp; omega), if_pos h]
          have : wrap64 (IntKind.u64.wrap (-(v : Int))) = -(v : Int) := by rw [IntKind.wrap_u64]; unfold wrap64; omega
          rw [this]
        · rw [if_neg (by simp; omega), if_neg h, if_neg (by omega)]
    | false =>
      refine EvT.step (g := fun k => soukref01_value.j1 k false (v : Int) false) (fun k => ?_) (EvT.done (fun k => ?_))
      · simp only [soukref01_value.l0]
        rw [if_neg (by omega), if_neg (by decide)]
      · simp only [soukref01_value.j1]
        unfold valF
        by_cases h : v < 9223372036854775808
        · have hw : wrap64 (v : Int) = v := by unfold wrap64; omega
          have h' : (v : Int) < 9223372036854775808 := by omega
          rw [hw]; simp [h, h']
        · have h' : ¬ (v : Int) < 9223372036854775808 := by omega
          simp [h, h']
  | j + 1, hj => by
    have e : ((j + 1 : Nat) : Int) - 1 = (j : Int) := by omega
    have hla : j < a.length := by omega
    have ih := value_from a neg ha j (by omega)
    have hd := drop_bat a j hla
    have hv : val (a.drop j) < 18446744073709551616 := by
      have h1 := val_lt (a.drop j)
      have h2 : 2 ^ (a.drop j).length ≤ 2 ^ 64 := Nat.pow_le_pow_right (by decide) (by rw [List.length_drop]; omega)
      have h3 : (2 : Nat) ^ 64 = 18446744073709551616 := by decide
      omega
    rw [hd] at ih hv
    simp only [val] at ih hv
    rw [e]
    generalize val (a.drop (j + 1)) = u at *
    refine EvT.step (fun k => ?_) ih
    simp only [soukref01_value.l0]
    rw [if_pos (by omega), if_pos (by omega), if_pos (by omega), rdOf_at, pv1 j (by omega)]
    cases hb : bat a j with
    | true =>
      rw [hb] at hv
      have : IntKind.u64.wrap (IntKind.u64.wrap ((u : Int) * 2) + 1) = ((bv true + 2 * u : Nat) : Int) := by
        rw [IntKind.wrap_u64, IntKind.wrap_u64]; simp [bv] at hv ⊢; omega
      rw [if_pos rfl, this]
    | false =>
      rw [hb] at hv
      have : IntKind.u64.wrap ((u : Int) * 2) = ((bv false + 2 * u : Nat) : Int) := by
        rw [IntKind.wrap_u64]; simp [bv] at hv ⊢; omega
      rw [if_neg (by decide), this]
theorem value_ok (a : List Bool) (neg : Bool) (ha : a.length ≤ 100000) : EvT (fun k => soukref01_value.f k a neg) (valF (val a) neg) := by
  have ht := trim_ok a (by omega)
  refine EvT.bind (F := fun k t260 => if (t260.length : Int) > 64 then (some (0, false)) else (soukref01_value.l0 k t260 neg 0 (wrap64 ((t260.length : Int) - 1)))) ht ?_
  by_cases h : (trimF a).length > 64
  · have h1 : val a ≥ 18446744073709551616 := by
      have hne : trimF a ≠ [] := fun h2 => by rw [h2] at h; simp at h
      have := trimF_pow a hne
      have h2 : 2 ^ 64 ≤ 2 ^ ((trimF a).length - 1) := Nat.pow_le_pow_right (by decide) (by omega)
      have h3 : (2 : Nat) ^ 64 = 18446744073709551616 := by decide
      omega
    have e : valF (val a) neg = (0, false) := by
      unfold valF
      cases neg
      · rw [if_neg (by decide), if_neg (by omega)]
      · rw [if_pos rfl, if_neg (by omega)]
    rw [e]
    exact EvT.congr (fun k => if_pos (by omega)) (EvT.const _)
  · have := value_from (trimF a) neg (by omega) (trimF a).length (Nat.le_refl _)
    rw [List.drop_length, trimF_val] at this
    refine EvT.congr (fun k => ?_) this
    rw [if_neg (by omega), pv1 _ (by omega)]
    rfl
end Go.Proofs.Ytncnhhnbjmpomaa.Q
namespace Go.Proofs.Ytncnhhnbjmpomaa.Q
open Go.RowKit Go.Proofs.YtncnhhnbjmpomaaW.PrintWords Go.Proofs.YtncnhhnbjmpomaaW.PrintLast Go.Proofs.YtncnhhnbjmpomaaW.PrintMore
attribute [local go_sem] max2_int min2_int max_two min_two max_three min_three max_four min_four   -- for this text's walks alone
set_option linter.unusedVariables false
set_option linter.unusedSimpArgs false
def slices_Equal_int64_int64.l0 : Nat → List Int → List Int → Int → Int → Option (Bool)
 | 0, _, _, _, _ => none
 | k + 1, x0, x1, x12, x13 => if x13 < x12 then (if 0 ≤ x13 then (if x13 < (x0.length : Int) then (if x13 < (x1.length : Int) then (if (rd x0 x13) = (rd x1 x13) then (slices_Equal_int64_int64.l0 k x0 x1 x12 (wrap64 (x13 + 1))) else (some false)) else (none)) else (none)) else (none)) else (some true)
def slices_Equal_int64_int64.f (k : Nat) (l0 : List Int) (l1 : List Int) : Option (Bool) := if (l0.length : Int) = (l1.length : Int) then (slices_Equal_int64_int64.l0 k l0 l1 (l0.length : Int) 0) else (some false)
set_option maxHeartbeats 8000000 in
set_option maxRecDepth 100000 in
theorem slices_Equal_int64_int64.calls (k : Nat) (A0 : Option Addr) (c0 : Nat) (l0 : List Int) (A1 : Option Addr) (c1 : Nat) (l1 : List Int) (r : Bool) (w : World) (hr0 : Kd.C (Kd.int .i64) w A0 l0.length l0) (hc0 : l0.length ≤ c0) (hr1 : Kd.C (Kd.int .i64) w A1 l1.length l1) (hc1 : l1.length ≤ c1) (h : slices_Equal_int64_int64.f k l0 l1 = some r) :
  Calls Try.prog 22 #[.slice A0 l0.length c0, .slice A1 l1.length c1] w fun e w' => e = .returned (.bool r) ∧ Drawn0 w w' := by
 have HR0 := Aside0.mk hr0
 have HC0 := Aside0.mk hc0
 clear hr0 hc0
 have HR1 := Aside0.mk hr1
 have HC1 := Aside0.mk hc1
 clear hr1 hc1
 have H : (if (l0.length : Int) = (l1.length : Int) then (slices_Equal_int64_int64.l0 k l0 l1 (l0.length : Int) 0) else (some false)) = some r := h
 clear h
 by_cases c3 : (l0.length : Int) = (l1.length : Int)
 ·rw [if_pos c3] at H
  have c3b0 : ((l0.length : Int) == (l1.length : Int)) = true := beq_iff_eq.mpr c3
  have c3b1 : ((l0.length : Int) != (l1.length : Int)) = false := bne_eq_false_iff_eq.mpr c3
  have c3b2 : (l0.length == l1.length) = true := by first | simpa using c3 | (simp at c3 ⊢; omega)
  clear c3
  have H' := Aside0.mk H
  clear H
  go_enter Try.func22, Try.ntmps22
  go_wp2
  repeat (go_quiet (fail); try go_wp2)
  go_loopg [13] k (fun kq v13 w' => ∃ (x13_1 : Int), v13 = .int .i64 x13_1 ∧ Aside0 (slices_Equal_int64_int64.l0 kq l0 l1 (l0.length : Int) x13_1 = some r) ∧ Aside0 (kq ≤ k) ∧ Drawn0 w w')
  case atStart => exact ⟨(0), (by first | rfl | (simp; done) | (simp [*]; done)), H', ⟨Nat.le_refl _⟩, by repeat (first | exact Drawn0.refl _ | apply Drawn0.step)⟩
  case round =>
   clear H'
   try clear c1
   try clear c2
   try clear p2
   try clear c3
   try clear c3b0
   try clear c3b1
   try clear c3b2
   obtain ⟨x13_1, rfl, HA, HK1, ⟨m1, rfl⟩⟩ := hrel
   cases gk with
   | zero => exact absurd HA.out (by simp [slices_Equal_int64_int64.l0])
   | succ k1 =>
    have H := HA.out
    clear HA
    simp only [slices_Equal_int64_int64.l0] at H
    by_cases c4 : x13_1 < (l0.length : Int)
    ·rw [if_pos c4] at H
     have c4b0 : decide (x13_1 < (l0.length : Int)) = true := decide_eq_true c4
     clear c4
     by_cases c5 : 0 ≤ x13_1
     ·rw [if_pos c5] at H
      have c5b0 : decide (0 ≤ x13_1) = true := decide_eq_true c5
      clear c5
      by_cases c6 : x13_1 < (l0.length : Int)
      ·rw [if_pos c6] at H
       have c6b0 : decide (x13_1 < (l0.length : Int)) = true := decide_eq_true c6
       clear c6
       by_cases c7 : x13_1 < (l1.length : Int)
       ·rw [if_pos c7] at H
        have c7b0 : decide (x13_1 < (l1.length : Int)) = true := decide_eq_true c7
        clear c7
        by_cases c8 : (rd l0 x13_1) = (rd l1 x13_1)
        ·rw [if_pos c8] at H
         have c8b0 : ((rd l0 x13_1) == (rd l1 x13_1)) = true := beq_iff_eq.mpr c8
         have c8b1 : ((rd l0 x13_1) != (rd l1 x13_1)) = false := bne_eq_false_iff_eq.mpr c8
         clear c8
         have H' := Aside0.mk H
         clear H
         have p115 : 0 ≤ (x13_1 : Int) := of_decide_eq_true (by first | (with_reducible assumption) | assumption)
         have q115 : x13_1 < (l0.length : Int) := of_decide_eq_true (by first | (with_reducible assumption) | assumption)
         obtain ⟨ad115, e115, hx115_0⟩ := Kd.at_int HR0.out x13_1 p115 q115
         cases e115
         replace p115 := eq_true p115
         replace q115 := eq_true q115
         have p116 : 0 ≤ (x13_1 : Int) := of_decide_eq_true (by first | (with_reducible assumption) | assumption)
         have q116 : x13_1 < (l1.length : Int) := of_decide_eq_true (by first | (with_reducible assumption) | assumption)
         obtain ⟨ad116, e116, hx116_0⟩ := Kd.at_int HR1.out x13_1 p116 q116
         cases e116
         replace p116 := eq_true p116
         replace q116 := eq_true q116
         go_wp2
         repeat (go_quiet (fail); try go_wp2)
         go_roundg k1
         case measure => have := HK1.out; omega
         case rel => exact ⟨(wrap64 (x13_1 + 1)), (by first | rfl | (simp; done) | (simp [*]; done)), H', ⟨by have := HK1.out; omega⟩, by repeat (first | exact Drawn0.refl _ | apply Drawn0.step)⟩
        ·rw [if_neg c8] at H
         have c8b0 : ((rd l0 x13_1) == (rd l1 x13_1)) = false := beq_eq_false_iff_ne.mpr c8
         have c8b1 : ((rd l0 x13_1) != (rd l1 x13_1)) = true := bne_iff_ne.mpr c8
         obtain rfl := Option.some.inj H
         have p115 : 0 ≤ (x13_1 : Int) := of_decide_eq_true (by first | (with_reducible assumption) | assumption)
         have q115 : x13_1 < (l0.length : Int) := of_decide_eq_true (by first | (with_reducible assumption) | assumption)
         obtain ⟨ad115, e115, hx115_0⟩ := Kd.at_int HR0.out x13_1 p115 q115
         cases e115
         replace p115 := eq_true p115
         replace q115 := eq_true q115
         have p116 : 0 ≤ (x13_1 : Int) := of_decide_eq_true (by first | (with_reducible assumption) | assumption)
         have q116 : x13_1 < (l1.length : Int) := of_decide_eq_true (by first | (with_reducible assumption) | assumption)
         obtain ⟨ad116, e116, hx116_0⟩ := Kd.at_int HR1.out x13_1 p116 q116
         cases e116
         replace p116 := eq_true p116
         replace q116 := eq_true q116
         go_wp2
         repeat (go_quiet (fail); try go_wp2)
         go_ret
         exact ⟨by first | rfl | (simp; done) | (simp [*]; done), by repeat (first | exact Drawn0.refl _ | apply Drawn0.step)⟩
       ·rw [if_neg c7] at H
        exact absurd H (by simp)
      ·rw [if_neg c6] at H
       exact absurd H (by simp)
     ·rw [if_neg c5] at H
      exact absurd H (by simp)
    ·rw [if_neg c4] at H
     have c4b0 : decide (x13_1 < (l0.length : Int)) = false := decide_eq_false c4
     clear c4
     obtain rfl := Option.some.inj H
     go_wp2
     repeat (go_quiet (fail); try go_wp2)
     go_ret
     exact ⟨by first | rfl | (simp; done) | (simp [*]; done), by repeat (first | exact Drawn0.refl _ | apply Drawn0.step)⟩
 ·rw [if_neg c3] at H
  have c3b0 : ((l0.length : Int) == (l1.length : Int)) = false := beq_eq_false_iff_ne.mpr c3
  have c3b1 : ((l0.length : Int) != (l1.length : Int)) = true := bne_iff_ne.mpr c3
  have c3b2 : (l0.length == l1.length) = false := by first | simpa using c3 | (simp at c3 ⊢; omega)
  obtain rfl := Option.some.inj H
  go_enter Try.func22, Try.ntmps22
  go_wp2
  repeat (go_quiet (fail); try go_wp2)
  go_ret
  exact ⟨by first | rfl | (simp; done) | (simp [*]; done), by repeat (first | exact Drawn0.refl _ | apply Drawn0.step)⟩
end Go.Proofs.Ytncnhhnbjmpomaa.Q
namespace Go.Proofs.Ytncnhhnbjmpomaa.Q
open Go.RowKit Go.Proofs.YtncnhhnbjmpomaaW.PrintWords Go.Proofs.YtncnhhnbjmpomaaW.PrintLast Go.Proofs.YtncnhhnbjmpomaaW.PrintMore
set_option linter.unusedVariables false
set_option linter.unusedSimpArgs false
theorem eq_from (a b : List Int) (hl : a.length = b.length) (hb : a.length ≤ 1000000000000) : ∀ (d i : Nat), a.length - i = d → i ≤ a.length →
    ∃ m, ∀ k, slices_Equal_int64_int64.l0 (k + m) a b a.length i = some (decide (a.drop i = b.drop i)) := by
  intro d
  induction d with
  | zero =>
    intro i hd hi
    refine ⟨1, fun k => ?_⟩
    simp only [slices_Equal_int64_int64.l0]
    rw [if_neg (by omega)]
    have h1 : a.drop i = [] := List.drop_eq_nil_of_le (by omega)
    have h2 : b.drop i = [] := List.drop_eq_nil_of_le (by omega)
    rw [h1, h2]; simp
  | succ d ih =>
    intro i hd hi
    have hlt : i < a.length := by omega
    have hlb : i < b.length := by omega
    have ea : a.drop i = a[i] :: a.drop (i + 1) := (List.getElem_cons_drop (h := hlt)).symm
    have eb : b.drop i = b[i] :: b.drop (i + 1) := (List.getElem_cons_drop (h := hlb)).symm
    have hw : wrap64 ((i : Int) + 1) = ((i + 1 : Nat) : Int) := by rw [w64i (by omega) (by omega)]; rfl
    obtain ⟨m, hm⟩ := ih (i + 1) (by omega) (by omega)
    refine ⟨m + 1, fun k => ?_⟩
    rw [← Nat.add_assoc]
    simp only [slices_Equal_int64_int64.l0]
    rw [if_pos (by omega), if_pos (by omega), if_pos (by omega), if_pos (by omega), rd_at a i hlt, rd_at b i hlb, hw, hm, ea, eb]
    by_cases h : a[i] = b[i]
    · rw [if_pos h]; exact congrArg some (decide_eq_decide.2 ⟨fun e => by rw [h, e], fun e => (List.cons.inj e).2⟩)
    · rw [if_neg h]; exact congrArg some (decide_eq_false (fun e => h (List.cons.inj e).1)).symm
theorem eq_ok (a b : List Int) (hb : a.length ≤ 1000000000000) : ∃ m, ∀ k, slices_Equal_int64_int64.f (k + m) a b = some (decide (a = b)) := by
  by_cases hl : a.length = b.length
  · obtain ⟨m, hm⟩ := eq_from a b hl hb a.length 0 (by omega) (by omega)
    refine ⟨m, fun k => ?_⟩
    unfold slices_Equal_int64_int64.f
    rw [if_pos (by omega)]
    have := hm k
    simpa using this
  · refine ⟨0, fun k => ?_⟩
    unfold slices_Equal_int64_int64.f
    rw [if_neg (by omega)]
    have : ¬ (a = b) := fun h => hl (by rw [h])
    simp [this]
end Go.Proofs.Ytncnhhnbjmpomaa.Q
namespace Go.Proofs.Ytncnhhnbjmpomaa.Q
open Go.RowKit Go.Proofs.YtncnhhnbjmpomaaW.PrintWords Go.Proofs.YtncnhhnbjmpomaaW.PrintLast Go.Proofs.YtncnhhnbjmpomaaW.PrintMore Go.Proofs.Ytncnhhnbjmpomaa
set_option linter.unusedVariables false
set_option linter.unusedSimpArgs false
theorem radd_ok (a b : Int) (ha : inR a) (hb : inR b) (k : Nat) : soukref01_Add.f (k + 1) a b = some (if -9223372036854775808 ≤ a + b ∧ a + b ≤ 9223372036854775807 then (a + b, true) else (0, false)) := by
  unfold inR at ha hb
  unfold soukref01_Add.f
  by_cases hp : b > 0
  · rw [if_pos hp, w64i (x := 9223372036854775807 - b) (by omega) (by omega)]
    simp only [soukref01_Add.j0]
    by_cases ho : a > 9223372036854775807 - b
    · rw [if_pos (by simpa using ho), if_neg (by omega)]
    · rw [if_neg (by simpa using ho), if_neg (by omega), w64i (by omega) (by omega), if_pos ⟨by omega, by omega⟩]
  · rw [if_neg hp]
    simp only [soukref01_Add.j0]
    rw [if_neg (by decide)]
    by_cases hn : b < 0
    · rw [if_pos hn, w64i (x := -9223372036854775808 - b) (by omega) (by omega)]
      by_cases ho : a < -9223372036854775808 - b
      · rw [if_pos ho, if_neg (by omega)]
      · rw [if_neg ho, w64i (by omega) (by omega), if_pos ⟨by omega, by omega⟩]
    · have h0 : b = 0 := by omega
      subst h0
      rw [if_neg (by decide), w64i (by omega) (by omega), if_pos ⟨by omega, by omega⟩]
def sumR (a : Int × Int) : Int × Bool := if a.2 = 0 then (a.1, true) else (0, false)
theorem rsum_from (l : List Int) (hl : ∀ x ∈ l, inR x) (hlen : l.length ≤ 1000000000000) : ∀ (d i : Nat) (s : Int), l.length - i = d → i ≤ l.length → inR s →
    ∃ m, ∀ k, soukref01_Sum.l0 (k + m) l s i = some (sumR (addF s (l.drop i))) := by
  intro d
  induction d with
  | zero =>
    intro i s hd hi hs
    have e : i = l.length := by omega
    subst e
    refine ⟨1, fun k => ?_⟩
    simp only [soukref01_Sum.l0]
    rw [if_neg (by omega), List.drop_length]; rfl
  | succ d ih =>
    intro i s hd hi hs
    have hlt : i < l.length := by omega
    have c1 : (i : Int) < (l.length : Int) := by omega
    have c2 : (0 : Int) ≤ (i : Int) := Int.natCast_nonneg i
    have c3 : (0 : Int) < (l.length : Int) := by omega
    have hx := hl l[i] (List.getElem_mem hlt)
    have hdr : l.drop i = l[i] :: l.drop (i + 1) := (List.getElem_cons_drop (h := hlt)).symm
    have HW : Hid (wrap64 ((i : Int) + 1) = ((i + 1 : Nat) : Int)) := by show _ = _; rw [w64i (by omega) (by omega)]; rfl
    rw [hdr]
    simp only [addF]
    by_cases hr : -9223372036854775808 ≤ s + l[i] ∧ s + l[i] ≤ 9223372036854775807
    · obtain ⟨m, hm⟩ := ih (i + 1) (s + l[i]) (by omega) (by omega) hr
      refine ⟨m + 2, fun k => ?_⟩
      obtain ⟨K, hK⟩ : ∃ K, K = k + m + 1 := ⟨_, rfl⟩
      have e : k + (m + 2) = K + 1 := by omega
      rw [e]
      simp only [soukref01_Sum.l0]
      have hadd := radd_ok s l[i] hs hx (k + m)
      rw [if_pos hr, ← hK] at hadd
      rw [if_pos c1, if_pos c2, rd_at l i hlt, hadd]
      have h2 : (if -9223372036854775808 ≤ s + l[i] ∧ s + l[i] ≤ 9223372036854775807 then addF (s + l[i]) (List.drop (i + 1) l) else (0, 2)) = addF (s + l[i]) (List.drop (i + 1) l) := if_pos hr
      rw [h2]
      simp only [Option.bind_some]
      rw [if_pos trivial, HW.out]
      have := hm (k + 1)
      rw [show k + 1 + m = K by omega] at this
      exact this
    · refine ⟨2, fun k => ?_⟩
      obtain ⟨K, hK⟩ : ∃ K, K = k + 1 := ⟨_, rfl⟩
      have e : k + 2 = K + 1 := by omega
      rw [e]
      simp only [soukref01_Sum.l0]
      have hadd := radd_ok s l[i] hs hx k
      rw [if_neg hr, ← hK] at hadd
      rw [if_pos c1, if_pos c2, rd_at l i hlt, hadd]
      have h2 : (if -9223372036854775808 ≤ s + l[i] ∧ s + l[i] ≤ 9223372036854775807 then addF (s + l[i]) (List.drop (i + 1) l) else (0, 2)) = (0, 2) := if_neg hr
      rw [h2]
      simp only [Option.bind_some]
      rw [if_neg (by decide)]
      unfold sumR
      rw [if_neg (by decide)]
theorem rsum_ok (l : List Int) (hl : ∀ x ∈ l, inR x) (hlen : l.length ≤ 1000000000000) : ∃ m, ∀ k, soukref01_Sum.f (k + m) l = some (sumR (addF 0 l)) := by
  obtain ⟨m, hm⟩ := rsum_from l hl hlen l.length 0 0 (by omega) (Nat.zero_le _) ⟨by decide, by decide⟩
  exact ⟨m, fun k => by unfold soukref01_Sum.f; exact hm k⟩
end Go.Proofs.Ytncnhhnbjmpomaa.Q
namespace Go.Proofs.Ytncnhhnbjmpomaa
open Go.RowKit Go.Proofs.Ytncnhhnbjmpomaa.Q Go.Proofs.Kq
open Go.Proofs.YtncnhhnbjmpomaaW.PrintWords (pw_cell_below step_append_cells print_append_cells Kd Kd.C Kd.C_below Drawn0 encs encs_length encs_append)
set_option linter.unusedVariables false
set_option linter.unusedSimpArgs false
def BitsP (w : World) (n : Nat) (L : Nat) (e : Ending) (w' : World) : Prop := ∃ A c xs, e = .returned (.slice A xs.length c) ∧ xs.length ≤ c ∧ Kd.C Kd.bool w' A xs.length xs ∧ val xs = n ∧ xs.length ≤ L ∧ Below w.heap.size w w'
theorem bits_c (a : Int) (ha : inR a) (w : World) : Calls Try.prog 44 #[.int .i64 a] w (BitsP w a.natAbs 64) := by
  obtain ⟨m, hm⟩ := bits_ok a ha
  refine (soukref01_bits.calls m a _ w (hm m (Nat.le_refl _))).mono ?_
  rintro e w' ⟨v, rfl, hR, hB⟩
  obtain ⟨A, c, rfl, hc, hC⟩ := Kd.R_reads hR
  exact ⟨A, c, _, rfl, hc, hC, bitsN_val _, bitsN_len64 a ha, hB⟩
theorem times_c (A0 : Option Addr) (c0 : Nat) (l0 : List Bool) (A1 : Option Addr) (c1 : Nat) (l1 : List Bool) (w : World) (hr0 : Kd.C Kd.bool w A0 l0.length l0) (hc0 : l0.length ≤ c0) (hr1 : Kd.C Kd.bool w A1 l1.length l1) (hc1 : l1.length ≤ c1)
    (h0 : l0.length ≤ 64) (h1 : l1.length ≤ 64) : Calls Try.prog 43 #[.slice A0 l0.length c0, .slice A1 l1.length c1] w (BitsP w (val l0 * val l1) 20000) := by
  obtain ⟨r, ⟨m, hm⟩, hv, hl⟩ := times_ok l0 l1 (by omega) (by omega)
  refine (soukref01_Times.calls m A0 c0 l0 A1 c1 l1 _ w hr0 hc0 hr1 hc1 (hm m (Nat.le_refl _))).mono ?_
  rintro e w' ⟨v, rfl, hR, hB⟩
  obtain ⟨A, c, rfl, hc, hC⟩ := Kd.R_reads hR
  exact ⟨A, c, _, rfl, hc, hC, by rw [trimF_val, hv], Nat.le_trans (trimF_len r) hl, hB⟩
def DivP (w : World) (p a : Nat) (e : Ending) (w' : World) : Prop := ∃ (v0 v1 : Value) (q r : List Bool), e = .returned (.tuple #[v0, v1]) ∧ Kd.R Kd.bool 4 w' w.heap.size (fun k => some k ≠ v1.ownBlock) v0 q ∧ Kd.R Kd.bool 4 w' w.heap.size (fun k => some k ≠ v0.ownBlock) v1 r ∧ val q = p / a ∧ val r = p % a ∧ q.length ≤ 100000 ∧ r.length ≤ 100000 ∧ r = trimF r ∧ Below w.heap.size w w'
theorem trim_len64 (l : List Bool) (n : Nat) (h : val l < 2 ^ n) (ht : l = trimF l) : l.length ≤ n := by
  by_cases he : trimF l = []
  · rw [ht, he]; simp
  · have := trimF_pow l he
    rw [← ht] at this
    apply Classical.byContradiction
    intro hn
    have : 2 ^ n ≤ 2 ^ (l.length - 1) := Nat.pow_le_pow_right (by decide) (by omega)
    omega
theorem div_c (A0 : Option Addr) (c0 : Nat) (l0 : List Bool) (A1 : Option Addr) (c1 : Nat) (l1 : List Bool) (w : World) (hr0 : Kd.C Kd.bool w A0 l0.length l0) (hc0 : l0.length ≤ c0) (hr1 : Kd.C Kd.bool w A1 l1.length l1) (hc1 : l1.length ≤ c1)
    (h0 : l0.length ≤ 20000) (h1 : l1.length ≤ 64) (hp : 0 < val l1) : Calls Try.prog 42 #[.slice A0 l0.length c0, .slice A1 l1.length c1] w (DivP w (val l0) (val l1)) := by
  obtain ⟨q, r, ⟨m, hm⟩, hq, hr, ht⟩ := div_ok l0 l1 (by omega) (by omega) hp
  refine (soukref01_Div.calls m A0 c0 l0 A1 c1 l1 _ _ w hr0 hc0 hr1 hc1 (hm m (Nat.le_refl _))).mono ?_
  rintro e w' ⟨v0, v1, rfl, hR0, hR1, hB⟩
  refine ⟨v0, v1, _, _, rfl, hR0, hR1, by rw [trimF_val, hq], hr, ?_, ?_, ht, hB⟩
  · refine Nat.le_trans (trim_len64 (trimF q) l0.length ?_ (trimF_idem q).symm) (by omega)
    rw [trimF_val, hq]
    exact Nat.lt_of_le_of_lt (Nat.div_le_self _ _) (val_lt l0)
  · refine Nat.le_trans (trim_len64 r 64 ?_ ht) (by decide)
    rw [hr]
    exact Nat.lt_trans (Nat.mod_lt _ hp) (Nat.lt_of_lt_of_le (val_lt l1) (Nat.pow_le_pow_right (by decide) h1))
theorem value_c (v : Value) (xs : List Bool) (P : Nat → Prop) (w0 w : World) (hB : Below w0.heap.size w0 w) (hR : Kd.R Kd.bool 4 w w0.heap.size P v xs) (hl : xs.length ≤ 100000) (h : val xs ≤ 9223372036854775807) :
    Calls Try.prog 49 #[v, .bool false] w fun e w' => e = .returned (.tuple #[.int .i64 (val xs : Nat), .bool true]) ∧ Below w0.heap.size w0 w' ∧ Go.Proofs.YtncnhhnbjmpomaaW.PrintWords.Kept w w' P := by
  obtain ⟨m, hm⟩ := value_ok xs false hl
  refine soukref01_value.calls m P v xs false _ _ w0 w hB hR ?_
  refine Eq.trans (hm m (Nat.le_refl _)) ?_
  unfold valF
  rw [if_neg (by decide), if_pos (by omega)]
theorem less_c (A0 : Option Addr) (c0 : Nat) (l0 : List Bool) (A1 : Option Addr) (c1 : Nat) (l1 : List Bool) (w : World) (hr0 : Kd.C Kd.bool w A0 l0.length l0) (hc0 : l0.length ≤ c0) (hr1 : Kd.C Kd.bool w A1 l1.length l1) (hc1 : l1.length ≤ c1)
    (h0 : l0.length ≤ 100000) (h1 : l1.length ≤ 100000) : Calls Try.prog 47 #[.slice A0 l0.length c0, .slice A1 l1.length c1] w fun e w' => e = .returned (.bool (decide (val l0 < val l1))) ∧ Below w.heap.size w w' := by
  obtain ⟨m, hm⟩ := less_ok l0 l1 h0 h1
  exact soukref01_less.calls m A0 c0 l0 A1 c1 l1 _ w hr0 hc0 hr1 hc1 (hm m (Nat.le_refl _))
theorem sum_c (A0 : Option Addr) (c0 : Nat) (l0 : List Int) (w : World) (hr0 : Kd.C (Kd.int .i64) w A0 l0.length l0) (hc0 : l0.length ≤ c0) (hl : ∀ x ∈ l0, inR x) (hlen : l0.length ≤ 1000000) :
    Calls Try.prog 14 #[.slice A0 l0.length c0] w fun e w' => e = .returned (.tuple #[.int .i64 (sumR (addF 0 l0)).1, .bool (sumR (addF 0 l0)).2]) ∧ Drawn0 w w' := by
  obtain ⟨m, hm⟩ := rsum_ok l0 hl (by omega)
  exact soukref01_Sum.calls (0 + m) A0 c0 l0 _ _ w hr0 hc0 (hm 0)
end Go.Proofs.Ytncnhhnbjmpomaa
namespace Go.Proofs.Ytncnhhnbjmpomaa
open Go.RowKit Go.Proofs.Ytncnhhnbjmpomaa.Q Go.Sort
set_option linter.unusedVariables false
set_option linter.unusedSimpArgs false
def BI (t : Int) (ws : List Int) (j i : Nat) (bz : Int) : Prop :=
  (bz = -1 ∧ ∀ m, m < i → alive t ws j m → rvF t ws m = 0) ∨
  ∃ b : Nat, bz = b ∧ b < i ∧ alive t ws j b ∧ (∀ m, m < i → alive t ws j m → rvF t ws m ≤ rvF t ws b) ∧ (∀ m, m < b → alive t ws j m → rvF t ws m < rvF t ws b ∨ rvF t ws b = 0)
theorem rv_nn (t : Int) (ws : List Int) (ha : 0 < ws.sum) (i : Nat) : 0 ≤ rvF t ws i := Int.emod_nonneg _ (by omega)
theorem BI.start (t : Int) (ws : List Int) (j : Nat) : BI t ws j 0 (-1) := .inl ⟨rfl, fun m h => by omega⟩
theorem BI.skip {t : Int} {ws : List Int} {j i : Nat} {bz : Int} (ha : 0 < ws.sum) (h : BI t ws j i bz) (hi : alive t ws j i → rvF t ws i = 0) : BI t ws j (i + 1) bz := by
  rcases h with ⟨h1, h2⟩ | ⟨b, h1, h2, h3, h4, h5⟩
  · refine .inl ⟨h1, fun m hm hl => ?_⟩
    by_cases e : m = i
    · subst e; exact hi hl
    · exact h2 m (by omega) hl
  · refine .inr ⟨b, h1, by omega, h3, fun m hm hl => ?_, h5⟩
    by_cases e : m = i
    · subst e; rw [hi hl]; exact rv_nn t ws ha b
    · exact h4 m (by omega) hl
theorem BI.keep {t : Int} {ws : List Int} {j i b : Nat} (h : BI t ws j i b) (hi : ¬ rvF t ws b < rvF t ws i) : BI t ws j (i + 1) b := by
  rcases h with ⟨h1, h2⟩ | ⟨b', h1, h2, h3, h4, h5⟩
  · omega
  · obtain rfl : b = b' := by omega
    refine .inr ⟨b, h1, by omega, h3, fun m hm hl => ?_, h5⟩
    by_cases e : m = i
    · subst e; omega
    · exact h4 m (by omega) hl
theorem BI.first {t : Int} {ws : List Int} {j i : Nat} {bz : Int} (ha : 0 < ws.sum) (h : BI t ws j i bz) (hb : bz < 0) (hi : alive t ws j i) : BI t ws j (i + 1) i := by
  rcases h with ⟨h1, h2⟩ | ⟨b', h1, h2, h3, h4, h5⟩
  · have hn := rv_nn t ws ha i
    refine .inr ⟨i, rfl, by omega, hi, fun m hm hl => ?_, fun m hm hl => ?_⟩
    · by_cases e : m = i
      · subst e; omega
      · rw [h2 m (by omega) hl]; exact hn
    · rw [h2 m hm hl]; omega
  · omega
theorem BI.take {t : Int} {ws : List Int} {j i b : Nat} (h : BI t ws j i b) (hi : alive t ws j i) (hl : rvF t ws b < rvF t ws i) : BI t ws j (i + 1) i := by
  rcases h with ⟨h1, h2⟩ | ⟨b', h1, h2, h3, h4, h5⟩
  · omega
  · obtain rfl : b = b' := by omega
    refine .inr ⟨i, rfl, by omega, hi, fun m hm hm2 => ?_, fun m hm hm2 => ?_⟩
    · by_cases e : m = i
      · subst e; omega
      · have := h4 m (by omega) hm2; omega
    · have := h4 m hm hm2; omega
theorem BI.alive_ {t : Int} {ws : List Int} {j i b : Nat} (h : BI t ws j i b) : b < i ∧ alive t ws j b := by
  rcases h with ⟨h1, h2⟩ | ⟨b', h1, h2, h3, h4, h5⟩
  · omega
  · obtain rfl : b = b' := by omega
    exact ⟨h2, h3⟩
theorem BI.end_ {t : Int} {ws : List Int} {j : Nat} {bz : Int} (ht : 0 ≤ t) (hw : ∀ x ∈ ws, 0 ≤ x) (ha : 0 < ws.sum) (hj : (j : Int) < leftF t ws.sum ws) (hjl : j < ws.length) (h : BI t ws j ws.length bz) :
    ∃ b : Nat, bz = b ∧ b < ws.length ∧ (ordF t ws)[j]'(by rw [ord_len]; exact hjl) = ⟨(b : Int), rvF t ws b⟩ := by
  have hjl2 : j < (ordF t ws).length := by rw [ord_len]; exact hjl
  obtain ⟨p, hp, hp2, hp3⟩ := alive_some t ws ht hw ha j hj hjl2
  rcases h with ⟨h1, h2⟩ | ⟨b, h1, h2, h3, h4, h5⟩
  · have := h2 p hp hp2; omega
  · exact ⟨b, h1, h2, pick_unique t ws ht hw ha j hj hjl2 b h2 h3 (fun m hm hl => h4 m hm hl) h5⟩
theorem alive_succ (t : Int) (ws : List Int) (j b i : Nat) (hjl : j < (ordF t ws).length) (he : (ordF t ws)[j] = ⟨(b : Int), rvF t ws b⟩) : alive t ws (j + 1) i ↔ alive t ws j i ∧ i ≠ b := by
  unfold alive
  rw [List.take_succ_eq_append_getElem hjl, he]
  constructor
  · intro h
    exact ⟨fun r hr => h r (by simp [hr]), fun e => h ⟨(b : Int), rvF t ws b⟩ (by simp) (by simp [e])⟩
  · rintro ⟨h1, h2⟩ r hr
    rcases List.mem_append.1 hr with hr | hr
    · exact h1 r hr
    · simp at hr
      subst hr
      simp; omega
end Go.Proofs.Ytncnhhnbjmpomaa
namespace Go.Proofs.Ytncnhhnbjmpomaa
open Go.RowKit Go.Proofs.Ytncnhhnbjmpomaa.Q Go.Proofs.Kq
open Go.Proofs.YtncnhhnbjmpomaaW.PrintWords (pw_cell_below step_append_cells print_append_cells Kd Kd.C Kd.C_below Drawn0 encs encs_length encs_append)
open Go.Proofs.YtncnhhnbjmpomaaW.PrintLast
set_option linter.unusedVariables false
set_option linter.unusedSimpArgs false
theorem info87 : (Try.prog.info? 87).map (fun i => (i.zero, i.size, i.bytes)) = some (some (.slice none 0 0), 1, 24) := by kernel_rfl
def lv (v : Value) : List Value := [v]
def Rows (w : World) (base : Nat) (rs : List Value) (f : Nat → Option Nat) : Prop := ∀ i (h : i < rs.length), match f i with
  | none => rs[i] = .slice none 0 0
  | some n => ∃ xs, Kd.R Kd.bool 4 w base (fun _ => True) rs[i] xs ∧ val xs = n ∧ xs.length ≤ 100000
theorem Rows.below {w w1 : World} {base : Nat} {rs : List Value} {f : Nat → Option Nat} (h : Rows w base rs f) (hb : Below w.heap.size w w1) : Rows w1 base rs f := by
  intro i hi
  have := h i hi
  split at this
  · exact this
  · obtain ⟨xs, h1, h2⟩ := this
    exact ⟨xs, Kd.R_below h1 hb, h2⟩
theorem Rows.set {w : World} {base : Nat} {rs : List Value} {f : Nat → Option Nat} (h : Rows w base rs f) {g t : Nat} {cells : Array Value} (hb : w.heap[g]? = some (.cells cells t (0, 0))) (ht : 4 ≠ t) (j : Nat) (u : Value) : Rows (w.setCell ⟨g, j, Option.none⟩ u) base rs f := by
  intro i hi
  have := h i hi
  split at this
  · exact this
  · obtain ⟨xs, h1, h2⟩ := this
    exact ⟨xs, Kd.R_set h1 hb (by intro q hq; rcases List.mem_cons.1 hq with rfl | hq <;> first | exact ht | cases hq) j u, h2⟩
theorem Rows.snoc {w : World} {base : Nat} {rs : List Value} {f : Nat → Option Nat} (h : Rows w base rs f) {v : Value} {xs : List Bool} (hv : Kd.R Kd.bool 4 w base (fun _ => True) v xs) (hf : f rs.length = some (val xs)) (hl : xs.length ≤ 100000) : Rows w base (rs ++ [v]) f := by
  intro i hi
  by_cases h1 : i < rs.length
  · have := h i h1
    rw [List.getElem_append_left h1]; exact this
  · obtain rfl : i = rs.length := by simp at hi; omega
    simp only [hf, List.getElem_concat_length]
    exact ⟨xs, hv, rfl, hl⟩
theorem bt_grown {w w1 : World} {base : Nat} {v : Value} {xs : List Bool} (h : Kd.R Kd.bool 4 w base (fun _ => True) v xs) {α : Type} {l : α → List Value} {sz e base' : Nat} {u : Value} {ys : List α} (hO : Own l sz e w base' u ys) (he : 4 ≠ e)
    (hg : ∀ k, k < w.heap.size → some k ≠ u.ownBlock → w1.heap[k]? = w.heap[k]?) : Kd.R Kd.bool 4 w1 base (fun _ => True) v xs := by
  have ho := Kd.own_of_R h
  refine Kd.R_of_own (Go.Proofs.YtncnhhnbjmpomaaW.PrintWords.own_move ho fun k hk => hg k (Go.Proofs.YtncnhhnbjmpomaaW.PrintWords.own_lt ho k hk) fun hu => ?_) (fun _ _ => trivial)
  obtain ⟨c1, h1⟩ := Go.Proofs.YtncnhhnbjmpomaaW.PrintWords.own_typed ho k hk
  obtain ⟨c2, h2⟩ := hO.at_ hu.symm
  rw [h1] at h2
  injection h2 with h2
  injection h2 with _ h2
  exact he h2
theorem Rows.grown {w w1 : World} {base : Nat} {rs : List Value} {f : Nat → Option Nat} (h : Rows w base rs f) {α : Type} {l : α → List Value} {sz e base' : Nat} {u : Value} {ys : List α} (hO : Own l sz e w base' u ys) (he : 4 ≠ e)
    (hg : ∀ k, k < w.heap.size → some k ≠ u.ownBlock → w1.heap[k]? = w.heap[k]?) : Rows w1 base rs f := by
  intro i hi
  have := h i hi
  split at this
  · exact this
  · obtain ⟨xs, h1, h2⟩ := this
    exact ⟨xs, bt_grown h1 hO he hg, h2⟩
theorem natq (t x a : Int) (h1 : 0 ≤ t) (h2 : 0 ≤ x) (h3 : 0 ≤ a) : ((t.natAbs * x.natAbs / a.natAbs : Nat) : Int) = t * x / a := by
  obtain ⟨t, rfl⟩ := Int.eq_ofNat_of_zero_le h1
  obtain ⟨x, rfl⟩ := Int.eq_ofNat_of_zero_le h2
  obtain ⟨a, rfl⟩ := Int.eq_ofNat_of_zero_le h3
  simp
theorem natr (t x a : Int) (h1 : 0 ≤ t) (h2 : 0 ≤ x) (h3 : 0 ≤ a) : t.natAbs * x.natAbs % a.natAbs = (t * x % a).toNat := by
  obtain ⟨t, rfl⟩ := Int.eq_ofNat_of_zero_le h1
  obtain ⟨x, rfl⟩ := Int.eq_ofNat_of_zero_le h2
  obtain ⟨a, rfl⟩ := Int.eq_ofNat_of_zero_le h3
  simp only [Int.natAbs_natCast]
  rw [← Int.natCast_mul, ← Int.natCast_emod, Int.toNat_natCast]
theorem flat_lv : ∀ rs : List Value, rs.flatMap lv = rs
  | [] => rfl
  | r :: rs => by simp [lv, flat_lv rs]
def RS (t : Int) (ws : List Int) (w w' : World) (v9 v10 : Value) (k : Nat) : Prop :=
  Own li 1 2 w' w.heap.size v9 (quosF t ws.sum (ws.take k)) ∧ (∃ rs : List Value, rs.length = k ∧ Own lv 1 87 w' w.heap.size v10 rs ∧ Rows w' w.heap.size rs (fun i => some (rvF t ws i).toNat)) ∧ Below w.heap.size w w'
theorem ownv_cell {w : World} {base g n c : Nat} {xs : List Value} (h : Own lv 1 87 w base (.slice (some ⟨g, 0, Option.none⟩) n c) xs) (i : Nat) (hi : i < xs.length) :
    w.cell? ⟨g, i, Option.none⟩ = some xs[i] ∧ w.frozen? ⟨g, i, Option.none⟩ = false := by
  rcases h.2 with ⟨h2, _⟩ | ⟨g', cap', cur, e, hg, hh, hn, hm, hcs, hcur⟩
  · cases h2
  · injection e with e1 e2 e3
    injection e1 with e1
    injection e1 with e1 _ _
    subst e1
    rw [flat_lv] at hcur
    have hc : cur[i]? = some xs[i] := by
      rw [← Array.getElem?_toList]
      have h1 : (cur.toList.take (xs.length * 1))[i]? = some xs[i] := by rw [hcur]; exact List.getElem?_eq_getElem hi
      rwa [List.getElem?_take_of_lt (by omega)] at h1
    exact ⟨by simp [World.cell?, hh, hc], by simp [World.frozen?, hh]⟩
open Classical in
noncomputable def PKf (t : Int) (ws : List Int) (j i : Nat) : Option Nat := if alive t ws j i then some (rvF t ws i).toNat else none
def PK (t : Int) (ws : List Int) (w w' : World) (g9 c9 g10 c10 : Nat) (j : Nat) (qs : List Int) : Prop :=
  Own li 1 2 w' w.heap.size (.slice (some ⟨g9, 0, Option.none⟩) ws.length c9) (bump qs ((ordF t ws).take j)) ∧ (∃ rs : List Value, rs.length = ws.length ∧ Own lv 1 87 w' w.heap.size (.slice (some ⟨g10, 0, Option.none⟩) ws.length c10) rs ∧ Rows w' w.heap.size rs (PKf t ws j)) ∧ Below w.heap.size w w'
theorem rows_next {t : Int} {ws : List Int} {w : World} {base j b : Nat} {rs : List Value} (hjl : j < (ordF t ws).length) (he : (ordF t ws)[j] = ⟨(b : Int), rvF t ws b⟩) (h : Rows w base rs (PKf t ws j)) : Rows w base (rs.set b (.slice Option.none 0 0)) (PKf t ws (j + 1)) := by
  intro i hi
  have hi2 : i < rs.length := by simpa using hi
  have h2 := h i hi2
  have ha := alive_succ t ws j b i hjl he
  by_cases e : i = b
  · subst e
    have hn : ¬ alive t ws (j + 1) i := fun hh => (ha.1 hh).2 rfl
    unfold PKf
    rw [if_neg hn]
    simp
  · have hs : (rs.set b (.slice Option.none 0 0))[i] = rs[i] := List.getElem_set_ne (fun h => e h.symm) _
    rw [hs]
    unfold PKf at h2 ⊢
    by_cases hal : alive t ws j i
    · rw [if_pos hal] at h2
      rw [if_pos (ha.2 ⟨hal, e⟩)]
      exact h2
    · rw [if_neg hal] at h2
      rw [if_neg (fun hh => hal (ha.1 hh).1)]
      exact h2
theorem ownv_set {w : World} {base g n c : Nat} {xs : List Value} (h : Own lv 1 87 w base (.slice (some ⟨g, 0, Option.none⟩) n c) xs) (i : Nat) (hi : i < xs.length) (v : Value) (hv : v.oneCell' = true) :
    Own lv 1 87 (w.setCell ⟨g, i, Option.none⟩ v) base (.slice (some ⟨g, 0, Option.none⟩) n c) (xs.set i v) := by
  rcases h.2 with ⟨h2, _⟩ | ⟨g', cap', cur, e, hg, hh, hn, hm, hcs, hcur⟩
  · cases h2
  · injection e with e1 e2 e3
    injection e1 with e1
    injection e1 with e1 _ _
    subst e1 e2 e3
    refine ⟨by rw [flat_lv]; simp, .inr ⟨g, c, cur.setIfInBounds i v, by simp, hg, ?_, by simpa using hn, hm, by simpa using hcs, ?_⟩⟩
    · simp only [World.setCell, Array.getElem?_modify, if_true, hh]
      rfl
    · rw [flat_lv, Nat.mul_one] at hcur
      rw [flat_lv, List.length_set, Nat.mul_one, Array.toList_setIfInBounds, List.take_set, hcur]
theorem PK.below {t : Int} {ws : List Int} {w w1 w2 : World} {g9 c9 g10 c10 j : Nat} {qs : List Int} (h : PK t ws w w1 g9 c9 g10 c10 j qs) (hb : Below w1.heap.size w1 w2) : PK t ws w w2 g9 c9 g10 c10 j qs := by
  obtain ⟨a, ⟨rs, b, c, d⟩, e⟩ := h
  exact ⟨a.below hb, ⟨rs, b, c.below hb, d.below hb⟩, below_step e hb⟩
theorem drew_b (w : World) : Below w.heap.size w w.drew := ⟨rfl, rfl, rfl, Nat.le_refl _, fun _ _ => rfl⟩
set_option maxRecDepth 100000 in
set_option maxHeartbeats 8000000 in
theorem rsplit_any (t : Int) (A0 : Option Addr) (c0 : Nat) (ws : List Int) (w : World) (hr0 : Kd.C (Kd.int .i64) w A0 ws.length ws) (hc0 : ws.length ≤ c0) (h20 : ws.length ≤ 1000) (hw : ∀ x ∈ ws, inR x) (ht : inR t) :
    Calls Try.prog 21 #[.int .i64 t, .slice A0 ws.length c0] w (SplitP t ws w) := by
  have HR := hidI hr0
  have HW := hidI hw
  have HT := hidI ht
  have H1 := hidI (sum_c A0 c0 ws)
  have hF : ∀ (c : Int) (w' : World), splitF t ws = ([], c) → Below w.heap.size w w' → SplitP t ws w (.returned (.tuple #[.slice none 0 0, .int .i64 c])) w' := fun c w' h hb => ⟨.slice none 0 0, by rw [h], by rw [h]; exact ⟨rfl, .inl ⟨rfl, rfl⟩⟩, hb⟩
  have HF := hidI hF
  clear hr0 hw ht hF
  go_enter Try.func21, Try.ntmps21
  go_wp2
  go_loopw [6] (fun i wr => ∃ k : Nat, k ≤ ws.length ∧ i = .int .i64 k ∧ w = wr ∧ Hid (∀ j (h : j < ws.length), j < k → 0 ≤ ws[j])) (fun i _ => ws.length - (intOf i).toNat)
  case atStart => exact ⟨0, Nat.zero_le _, rfl, rfl, fun _ _ h => absurd h (by omega)⟩
  case round =>
    obtain ⟨k, hk, rfl, rfl, HI⟩ := hrel
    by_cases hlt : k < ws.length
    · obtain ⟨b, off, hA, hc⟩ := C_ints HR.out (by omega)
      subst hA
      obtain ⟨x, hx⟩ : ∃ x, x = ws[k] := ⟨_, rfl⟩
      have q0 := hc k hlt
      rw [← hx] at q0
      have HX := hidI hx
      clear hc hx
      by_cases h0 : x < 0
      · have hfin := HF.out 1 w (by
          unfold splitF
          by_cases ht0 : t < 0
          · rw [if_pos ht0]
          · rw [if_neg ht0, if_pos]
            exact List.any_eq_true.2 ⟨ws[k], List.getElem_mem hlt, by rw [← HX.out]; simpa using h0⟩) (Below.refl _ _)
        have HFI := hidI hfin
        clear hfin
        go_wp2
        go_ret2
        exact HFI.out
      · go_wp2
        go_roundw
        case rel =>
          refine ⟨k + 1, by omega, by go_num, by first | rfl | trivial, ?_⟩
          show ∀ j (h : j < ws.length), j < k + 1 → 0 ≤ ws[j]
          intro j hj hj2
          by_cases e : j = k
          · subst e; rw [← HX.out]; omega
          · exact HI.out j hj (by omega)
        case measure => simp [intOf]; omega
    · obtain rfl : k = ws.length := by omega
      have hnn : ∀ x ∈ ws, 0 ≤ x := by
        intro x hx
        obtain ⟨j, hj, rfl⟩ := List.getElem_of_mem hx
        exact HI.out j hj hj
      clear HI hk hlt
      have hany : ws.any (fun n => decide (n < 0)) = false := by
        rw [List.any_eq_false]
        intro x hx
        have := hnn x hx
        simp; omega
      have ha := addF_nn ws 0 (Int.le_refl _) hnn (by decide)
      rw [Int.zero_add] at ha
      have hst : Hid (splitF t ws = if t < 0 then ([], 1) else if ¬ (ws.sum ≤ 9223372036854775807) then ([], 2) else if ws.sum = 0 then ([], 1) else (partsF t ws, 0)) := by
        show _ = _
        unfold splitF
        rw [hany]; simp
      have hs0 := sum_nn ws hnn
      have HNN := hidI hnn
      clear hnn hany
      have hs : Hid (∀ w, Kd.C (Kd.int .i64) w A0 ws.length ws → Calls Try.prog 14 #[.slice A0 ws.length c0] w fun e w' => e = .returned (.tuple #[.int .i64 (sumR (addF 0 ws)).1, .bool (sumR (addF 0 ws)).2]) ∧ Drawn0 w w') := fun w h => H1.out w h hc0 HW.out (by omega)
      clear H1
      by_cases hov : ws.sum ≤ 9223372036854775807
      · rw [if_pos hov] at ha
        have e : sumR (addF 0 ws) = (ws.sum, true) := by rw [ha]; rfl
        rw [e] at hs
        clear ha e
        obtain ⟨all, hall⟩ : ∃ all, all = ws.sum := ⟨_, rfl⟩
        rw [← hall] at hs hov hs0 hst
        have HALL := hidI hall
        clear hall
        by_cases ht0 : t < 0
        · have hfin := hidI (fun n => HF.out 1 (w.drewN n) (by rw [hst.out, if_pos ht0]) (below_drN _ n))
          clear hst HF
          go_wp2_with fail
          refine (hs.out _ HR.out).mono ?_
          rintro e w' ⟨rfl, ⟨n, rfl⟩⟩
          simp only []
          go_wp2
          go_ret2
          exact hfin.out n
        by_cases ha0 : all = 0
        · have hfin := hidI (fun n => HF.out 1 (w.drewN n) (by rw [hst.out, if_neg ht0, if_neg (by omega), if_pos ha0]) (below_drN _ n))
          clear hst HF HALL
          subst ha0
          go_wp2_with fail
          refine (hs.out _ HR.out).mono ?_
          rintro e w' ⟨rfl, ⟨n, rfl⟩⟩
          simp only []
          go_wp2
          go_ret2
          exact hfin.out n
        · have ha1 : 0 < all := by omega
          have HAR : Hid (inR all) := ⟨by omega, hov⟩
          have HAP := hidI ha1
          have htn : 0 ≤ t := by omega
          have hmem := mem_le_sum ws HNN.out
          have HM := hidI hmem
          rw [if_neg ht0, if_neg (by omega), if_neg ha0] at hst
          clear hmem HF
          have hne2 : (all == 0) = false := beq_eq_false_iff_ne.2 ha0
          have htd : decide (t < 0) = false := by simpa using ht0
          go_wp2_with fail
          refine (hs.out _ HR.out).mono ?_
          rintro e w' ⟨rfl, ⟨n, rfl⟩⟩
          simp only []
          clear hs
          go_wp2
          go_loopw [9, 10, 11, 12] (fun v9 v10 l i w2 => ∃ k : Nat, k ≤ ws.length ∧ i = .int .i64 k ∧ l = .int .i64 (leftF t all (ws.take k)) ∧ Hid (RS t ws w w2 v9 v10 k)) (fun _ _ _ i _ => ws.length - (intOf i).toNat)
          case atStart => exact ⟨0, Nat.zero_le _, rfl, by simp [leftF, quosF], ⟨Own.nil _ _ _ _ _, ⟨[], rfl, Own.nil _ _ _ _ _, fun i h => by cases h⟩, below_drN w _⟩⟩
          case round =>
            obtain ⟨k, hk, rfl, rfl, HI⟩ := hrel
            by_cases hlt : k < ws.length
            · obtain ⟨b, off, hA, hc⟩ := C_ints HR.out (by omega)
              subst hA
              have q0 : wr.cell? ⟨b, off + k, none⟩ = some (.int .i64 ws[k]) := pw_cell_below HI.out.2.2 (hc k hlt)
              have hx0 : 0 ≤ ws[k] := HNN.out _ (List.getElem_mem hlt)
              have hxa : ws[k] ≤ all := by have := HM.out _ (List.getElem_mem hlt); have := HALL.out; omega
              have hxr := HW.out _ (List.getElem_mem hlt)
              have hrv : rvF t ws k = t * ws[k] % all := by
                unfold rvF
                rw [List.getD_eq_getElem?_getD, List.getElem?_eq_getElem hlt, ← HALL.out]; rfl
              obtain ⟨x, hx⟩ : ∃ x, x = ws[k] := ⟨_, rfl⟩
              rw [← hx] at q0 hx0 hxa hxr hrv
              have HX := hidI hx
              have HXR := hidI hxr
              have hlk := left_take t ws k htn HNN.out (by rw [← HALL.out]; exact HAP.out)
              rw [← HALL.out] at hlk
              have hqb := quo_bd htn hx0 hxa HAP.out
              have hst1 : Hid (quosF t all (ws.take (k + 1)) = quosF t all (ws.take k) ++ [t * x / all]) := by
                show _ = _
                rw [List.take_succ_eq_append_getElem hlt, ← HX.out, quosF_snoc]
              have hst3 : Hid (leftF t all (ws.take (k + 1)) = leftF t all (ws.take k) - t * x / all) := by
                show _ = _
                unfold leftF
                rw [hst1.out]; simp; omega
              have hlk1 := left_take t ws (k + 1) htn HNN.out (by rw [← HALL.out]; exact HAP.out)
              rw [← HALL.out, hst3.out] at hlk1
              have HRV := hidI hrv
              have hx0' := hx0
              clear hx hc hxr hrv
              go_wp2_with fail
              refine start_ (n := 16) (S := fun w' => w'.cell? ⟨b, off + k, none⟩ = some (.int .i64 x)) (ds := []) #[false, false, false, false, false, false, false, false, false, false, false, false, false, false, false, false] (by kernel_rfl) rfl rfl (q0) (fun hHeld => ?_)
              refine pure_ (i := 0) (N := some 52) (v := ?_) (a' := ?_) #[true, false, false, false, false, false, false, false, false, false, false, false, false, false, false, false] rfl rfl (by kernel_rfl) (fun _ _ _ h => h) (Or.inl ⟨by rfl, ?_⟩) ?_ ?_
              rotate_left
              · intro w'
                go_simp
                with_reducible rfl
              rotate_left
              · simp only [Act.put, List.setIfInBounds_toArray, List.set_cons_zero, List.set_cons_succ, i64_w, i32_w]
                rfl
              refine pure_ (i := 2) (N := some 54) (v := ?_) (a' := ?_) #[true, false, true, false, false, false, false, false, false, false, false, false, false, false, false, false] rfl rfl (by kernel_rfl) (fun _ _ _ h => h) (Or.inl ⟨by rfl, ?_⟩) ?_ ?_
              rotate_left
              · intro w'
                go_simp
                with_reducible rfl
              rotate_left
              · simp only [Act.put, List.setIfInBounds_toArray, List.set_cons_zero, List.set_cons_succ, i64_w, i32_w]
                rfl
              refine pure_ (i := 3) (N := some 55) (v := ?_) (a' := ?_) #[true, false, true, true, false, false, false, false, false, false, false, false, false, false, false, false] rfl rfl (by kernel_rfl) (fun _ _ _ h => h) (Or.inl ⟨by rfl, ?_⟩) ?_ ?_
              rotate_left
              · intro w'
                go_simp
                with_reducible rfl
              rotate_left
              · simp only [Act.put, List.setIfInBounds_toArray, List.set_cons_zero, List.set_cons_succ, i64_w, i32_w]
                rfl
              refine pure_ (i := 4) (N := some 56) (v := ?_) (a' := ?_) #[true, false, true, true, true, false, false, false, false, false, false, false, false, false, false, false] rfl rfl (by kernel_rfl) (fun _ _ _ h => h) (Or.inl ⟨by rfl, ?_⟩) ?_ ?_
              rotate_left
              · intro w'
                go_simp
                with_reducible rfl
              rotate_left
              · simp only [Act.put, List.setIfInBounds_toArray, List.set_cons_zero, List.set_cons_succ, i64_w, i32_w]
                rfl
              refine pure_ (i := 8) (N := some 60) (v := ?_) (a' := ?_) #[true, false, true, true, true, false, false, false, true, false, false, false, false, false, false, false] rfl rfl (by kernel_rfl) (fun _ _ _ h => h) (Or.inl ⟨by rfl, ?_⟩) ?_ ?_
              rotate_left
              · intro w'
                go_simp
                with_reducible rfl
              rotate_left
              · simp only [Act.put, List.setIfInBounds_toArray, List.set_cons_zero, List.set_cons_succ, i64_w, i32_w]
                rfl
              refine take_ (i := 5) (N := some 57) (v := ?_) (a' := ?_) #[true, false, true, true, true, true, false, false, true, false, false, false, false, false, false, false] rfl rfl (by kernel_rfl) (fun _ _ _ h => h) (Or.inl ⟨by rfl, ?_⟩) hHeld ?_ ?_
              rotate_left
              · intro w' s0
                go_simp
                with_reducible rfl
              rotate_left
              · simp only [Act.put, List.setIfInBounds_toArray, List.set_cons_zero, List.set_cons_succ, i64_w, i32_w]
                rfl
              refine one_ (i := 1) (N := some 53) #[true, true, true, true, true, true, false, false, true, false, false, false, false, false, false, false] rfl rfl (by kernel_rfl) (by decide) (fun K hK => ?_)
              refine goes_ Try.func44 (by kernel_rfl) rfl #[.int .i64 t] (by rfl) rfl rfl (by simp only [List.map_toArray, List.map_cons, List.map_nil]; rfl) ?_
              with_reducible refine (bits_c t HT.out _).mono ?_
              rintro e w1 ⟨A1, c1, xs1, rfl, hc1, hC1, hv1, hl1, hb1⟩
              refine ⟨_, rfl, ?_⟩
              refine hK.out _ _ (pw_cell_below hb1 q0) (fun hHeld => ?_)
              clear hK K
              refine norm_ (a' := ?_) ?_ ?_
              rotate_left
              · show Act.put _ (some 53) _ = _
                simp only [Act.put, List.setIfInBounds_toArray, List.set_cons_zero, List.set_cons_succ, i64_w, i32_w]
                rfl
              refine one_ (i := 6) (N := some 58) #[true, true, true, true, true, true, true, false, true, false, false, false, false, false, false, false] rfl rfl (by kernel_rfl) (by decide) (fun K hK => ?_)
              refine goes_ Try.func44 (by kernel_rfl) rfl #[.int .i64 x] (by rfl) rfl rfl (by simp only [List.map_toArray, List.map_cons, List.map_nil]; rfl) ?_
              with_reducible refine (bits_c x HXR.out _).mono ?_
              rintro e w2 ⟨A2, c2, xs2, rfl, hc2, hC2, hv2, hl2, hb2⟩
              refine ⟨_, rfl, ?_⟩
              have hC1 := Kd.C_below hC1 hb2
              refine hK.out _ _ (pw_cell_below (below_step hb1 hb2) q0) (fun hHeld => ?_)
              clear hK K
              refine norm_ (a' := ?_) ?_ ?_
              rotate_left
              · show Act.put _ (some 58) _ = _
                simp only [Act.put, List.setIfInBounds_toArray, List.set_cons_zero, List.set_cons_succ, i64_w, i32_w]
                rfl
              refine one_ (i := 7) (N := some 59) #[true, true, true, true, true, true, true, true, true, false, false, false, false, false, false, false] rfl rfl (by kernel_rfl) (by decide) (fun K hK => ?_)
              refine goes_ Try.func43 (by kernel_rfl) rfl #[.slice A1 xs1.length c1, .slice A2 xs2.length c2] (by rfl) rfl rfl (by simp only [List.map_toArray, List.map_cons, List.map_nil]; rfl) ?_
              with_reducible refine (times_c _ _ _ _ _ _ _ hC1 hc1 hC2 hc2 hl1 hl2).mono ?_
              rintro e w3 ⟨A3, c3, xs3, rfl, hc3, hC3, hv3, hl3, hb3⟩
              refine ⟨_, rfl, ?_⟩
              refine hK.out _ _ (pw_cell_below (below_step (below_step hb1 hb2) hb3) q0) (fun hHeld => ?_)
              clear hK K
              refine norm_ (a' := ?_) ?_ ?_
              rotate_left
              · show Act.put _ (some 59) _ = _
                simp only [Act.put, List.setIfInBounds_toArray, List.set_cons_zero, List.set_cons_succ, i64_w, i32_w]
                rfl
              refine one_ (i := 9) (N := some 61) #[true, true, true, true, true, true, true, true, true, true, false, false, false, false, false, false] rfl rfl (by kernel_rfl) (by decide) (fun K hK => ?_)
              refine goes_ Try.func44 (by kernel_rfl) rfl #[.int .i64 all] (by rfl) rfl rfl (by simp only [List.map_toArray, List.map_cons, List.map_nil]; rfl) ?_
              with_reducible refine (bits_c all HAR.out _).mono ?_
              rintro e w4 ⟨A4, c4, xs4, rfl, hc4, hC4, hv4, hl4, hb4⟩
              refine ⟨_, rfl, ?_⟩
              have hC3 := Kd.C_below hC3 hb4
              refine hK.out _ _ (pw_cell_below (below_step (below_step (below_step hb1 hb2) hb3) hb4) q0) (fun hHeld => ?_)
              clear hK K
              refine norm_ (a' := ?_) ?_ ?_
              rotate_left
              · show Act.put _ (some 61) _ = _
                simp only [Act.put, List.setIfInBounds_toArray, List.set_cons_zero, List.set_cons_succ, i64_w, i32_w]
                rfl
              refine one_ (i := 10) (N := some 62) #[true, true, true, true, true, true, true, true, true, true, true, false, false, false, false, false] rfl rfl (by kernel_rfl) (by decide) (fun K hK => ?_)
              refine goes_ Try.func42 (by kernel_rfl) rfl #[.slice A3 xs3.length c3, .slice A4 xs4.length c4] (by rfl) rfl rfl (by simp only [List.map_toArray, List.map_cons, List.map_nil]; rfl) ?_
              with_reducible refine (div_c _ _ _ _ _ _ _ hC3 hc3 hC4 hc4 hl3 hl4 (by rw [hv4]; have := HAP.out; omega)).mono ?_
              rintro e w5 ⟨v5, v6, q5, r5, rfl, hR5, hR6, hv5, hv6, hl5, hl6, ht6, hb5⟩
              refine ⟨_, rfl, ?_⟩
              refine hK.out _ _ (pw_cell_below (below_step (below_step (below_step (below_step hb1 hb2) hb3) hb4) hb5) q0) (fun hHeld => ?_)
              clear hK K
              refine norm_ (a' := ?_) ?_ ?_
              rotate_left
              · show Act.put _ (some 62) _ = _
                simp only [Act.put, List.setIfInBounds_toArray, List.set_cons_zero, List.set_cons_succ, i64_w, i32_w]
                rfl
              refine pure_ (i := 11) (N := some 51) (v := ?_) (a' := ?_) #[true, true, true, true, true, true, true, true, true, true, true, true, false, false, false, false] rfl rfl (by kernel_rfl) (fun _ _ _ h => h) (Or.inl ⟨by rfl, ?_⟩) ?_ ?_
              rotate_left
              · intro w'
                go_simp
                with_reducible rfl
              rotate_left
              · simp only [Act.put, List.setIfInBounds_toArray, List.set_cons_zero, List.set_cons_succ, i64_w, i32_w]
                rfl
              refine pure_ (i := 12) (N := some 63) (v := ?_) (a' := ?_) #[true, true, true, true, true, true, true, true, true, true, true, true, true, false, false, false] rfl rfl (by kernel_rfl) (fun _ _ _ h => h) (Or.inl ⟨by rfl, ?_⟩) ?_ ?_
              rotate_left
              · intro w'
                go_simp
                with_reducible rfl
              rotate_left
              · simp only [Act.put, List.setIfInBounds_toArray, List.set_cons_zero, List.set_cons_succ, i64_w, i32_w]
                rfl
              refine pure_ (i := 13) (N := some 64) (v := ?_) (a' := ?_) #[true, true, true, true, true, true, true, true, true, true, true, true, true, true, false, false] rfl rfl (by kernel_rfl) (fun _ _ _ h => h) (Or.inl ⟨by rfl, ?_⟩) ?_ ?_
              rotate_left
              · intro w'
                go_simp
                with_reducible rfl
              rotate_left
              · simp only [Act.put, List.setIfInBounds_toArray, List.set_cons_zero, List.set_cons_succ, i64_w, i32_w]
                rfl
              refine pure_ (i := 14) (N := some 13) (v := ?_) (a' := ?_) #[true, true, true, true, true, true, true, true, true, true, true, true, true, true, true, false] rfl rfl (by kernel_rfl) (fun _ _ _ h => h) (Or.inl ⟨by rfl, ?_⟩) ?_ ?_
              rotate_left
              · intro w'
                go_simp
                with_reducible rfl
              rotate_left
              · simp only [Act.put, List.setIfInBounds_toArray, List.set_cons_zero, List.set_cons_succ, i64_w, i32_w]
                rfl
              refine pure_ (i := 15) (N := some 14) (v := ?_) (a' := ?_) #[true, true, true, true, true, true, true, true, true, true, true, true, true, true, true, true] rfl rfl (by kernel_rfl) (fun _ _ _ h => h) (Or.inl ⟨by rfl, ?_⟩) ?_ ?_
              rotate_left
              · intro w'
                go_simp
                with_reducible rfl
              rotate_left
              · simp only [Act.put, List.setIfInBounds_toArray, List.set_cons_zero, List.set_cons_succ, i64_w, i32_w]
                rfl
              refine done_ (by kernel_rfl) ?_
              have eqv : (val q5 : Int) = t * x / all := by
                rw [hv5, hv3, hv1, hv2, hv4]; exact natq t x all htn hx0 (by omega)
              have erv : val r5 = (rvF t ws k).toNat := by
                rw [hv6, hv3, hv1, hv2, hv4, HRV.out]; exact natr t x all htn hx0 (by omega)
              have hb05 := below_step (below_step (below_step (below_step hb1 hb2) hb3) hb4) hb5
              have hb04 := below_step (below_step (below_step hb1 hb2) hb3) hb4
              obtain ⟨A6, c6, rfl⟩ := Kd.R_slice hR6
              have htr := HT.out.2
              have hq63 : val q5 ≤ 9223372036854775807 := by omega
              clear hC1 hC2 hC3 hC4 hv1 hv2 hv3 hv4 hv5 hv6 hl1 hl2 hl3 hl4 ht6 hc1 hc2 hc3 hc4 hb1 hb2 hb3 hb4 hHeld
              have HQ := hidI (And.intro hR5 (And.intro hR6 (And.intro erv (And.intro hl6 (And.intro hb05 (And.intro hb04 hb5))))))
              clear hR5 hR6 erv hl6 hb05 hb04 q0
              have HV := hidI (value_c v5 q5 _ w4 w5 hb5 HQ.out.1 hl5 hq63)
              clear hb5 hl5 hq63
              rw [eqv] at HV
              clear eqv hxa
              generalize leftF t all (ws.take k) = lf at *
              generalize t * x / all = q at *
              go_wp2_with fail
              refine HV.out.mono ?_
              rintro e w6 ⟨rfl, hb6, hk6⟩
              simp only []
              obtain ⟨hR5, hR6, erv, hl6, hb05, hb04, hb5⟩ := HQ.out
              clear HQ HV
              have hbx := below_step hb04 hb6
              have ho6 := Kd.own_of_R hR6
              have hv6 : Kd.R Kd.bool 4 w6 w.heap.size (fun _ => True) (.slice A6 r5.length c6) r5 := Kd.R_of_own (Go.Proofs.YtncnhhnbjmpomaaW.PrintWords.own_weaken (Go.Proofs.YtncnhhnbjmpomaaW.PrintWords.own_move ho6 (fun k hk => hk6.2 k (Go.Proofs.YtncnhhnbjmpomaaW.PrintWords.own_lt ho6 k hk) (fun hn => hn hk.symm))) (Nat.le_trans HI.out.2.2.size hb04.size)) (fun _ _ => trivial)
              obtain ⟨hO1, ⟨rs, hrs, hO2, hRW⟩, hB0⟩ := HI.out
              have hO1 := (hO1.drew).below hbx
              have hO2 := (hO2.drew).below hbx
              have hRW := Rows.below (Rows.below (w1 := wr.drew) hRW ⟨rfl, rfl, rfl, Nat.le_refl _, fun _ _ => rfl⟩) hbx
              have hB0 := below_step (below_drewN hB0 1) hbx
              clear HI hR5 hR6 hb05 hb04 hb5 hb6 hk6 hbx ho6
              have hl1 : (quosF t all (ws.take k)).length = k := by rw [quosF_len, List.length_take]; omega
              rw [← HALL.out] at hO1
              generalize quosF t all (ws.take k) = zq at *
              have hfs := Rows.snoc hRW hv6 (by rw [hrs, erv]) hl6
              have HO1 := hidI hO1
              have HO2 := hidI hO2
              have HFS := hidI (And.intro hRW hfs)
              have HB0 := hidI hB0
              have hzq : zq.length ≤ 1000000 := by omega
              have hzr : rs.length ≤ 1000000 := by omega
              have HL := hidI (And.intro hl1 hrs)
              have HSZ := hB0.size
              have HBV := hidI hv6
              have HER := hidI erv
              clear hO1 hO2 hB0 hRW hfs hl1 hrs hv6 erv hl6
              go_wp2_with (first
                | (at_builtin; refine print_append_cells (w0 := w) (W := w6) w.heap.size rfl (.tmp 70) (.tmp 72) 22 2 (.int .i64 0) 1 8 rfl Try.underlying22 info2 rfl (by decide) (by decide) u9 zq.length (zq.flatMap li) [.int .i64 q] (by rfl) (by rfl) rfl (by simp [Value.oneCell']) HO1.out HB0.out HB0.out.size (by omega) ?_; intro v7 w7 ho7 hb7 hg7 hat7)
                | (at_builtin; refine print_append_cells (w0 := w) (W := w7) w.heap.size rfl (.tmp 74) (.tmp 76) 102 87 (.slice none 0 0) 1 24 rfl Try.underlying102 info87 rfl (by decide) (by decide) u10 rs.length (rs.flatMap lv) [.slice A6 r5.length c6] (by rfl) (by rfl) rfl (by simp [Value.oneCell']) (HO2.out.kept (fun k2 hk2 => hg7.block k2 (HO2.out.lt hk2) (fun h => HO2.out.ne_own HO1.out (by decide) k2 hk2 h.symm))) hb7 hb7.size (by omega) ?_; intro v8 w8 ho8 hb8 hg8 hat8))
              have hO27 := HO2.out.kept (w1 := w7) (fun k2 hk2 => hg7.block k2 (HO2.out.lt hk2) (fun h => HO2.out.ne_own HO1.out (by decide) k2 hk2 h.symm))
              have hO17 := Own.snoc (l := li) (p := q) ho7
              have hO18 := hO17.kept (w1 := w8) (fun k2 hk2 => hg8.block k2 (hO17.lt hk2) (fun h => hO17.ne_own hO27 (by decide) k2 hk2 h.symm))
              have hO28 := Own.snoc (l := lv) (p := Value.slice A6 r5.length c6) ho8
              have hR7 := Rows.grown HFS.out.2 HO1.out (by decide) (fun k2 h1 h2 => hg7.block k2 h1 h2)
              have hR8 := Rows.grown hR7 hO27 (by decide) (fun k2 h1 h2 => hg8.block k2 h1 h2)
              have hfin : Hid (RS t ws w w8 v7 v8 (k + 1)) := by
                refine ⟨?_, ⟨rs ++ [.slice A6 r5.length c6], by simp [HL.out.2], hO28, hR8⟩, hb8⟩
                rw [← HALL.out, hst1.out]
                exact hO18
              clear ho7 hb7 hg7 hat7 ho8 hb8 hg8 hat8 hO27 hO17 hO18 hO28 hR7 hR8 HO1 HO2 HB0 HFS HBV
              go_roundw
              case rel => exact ⟨k + 1, by omega, by go_num, by rw [hst3.out], hfin⟩
              case measure => simp [intOf]; omega
            · obtain rfl : k = ws.length := by omega
              have hRS := HI.out
              unfold RS at hRS
              rw [List.take_length] at hRS
              rw [List.take_length]
              obtain ⟨hO1, ⟨rs, hrs, hO2, hRW⟩, hB⟩ := hRS
              rw [← HALL.out] at hO1
              have hHL := left_bd t ws htn HNN.out (by rw [← HALL.out]; exact HAP.out)
              rw [← HALL.out] at hHL
              obtain ⟨lf, hlf⟩ : ∃ lf : Nat, (lf : Int) = leftF t all ws := ⟨(leftF t all ws).toNat, by omega⟩
              have hlf2 : (leftF t all ws).toNat = lf := by omega
              have hpos : 0 < ws.length := by
                apply Nat.pos_of_ne_zero
                intro h0
                have e := HALL.out
                rw [List.length_eq_zero_iff.1 h0] at e
                simp at e; omega
              have HPF : Hid (partsF t ws = bump (quosF t all ws) ((ordF t ws).take lf)) := by
                show _ = _
                unfold partsF ordF; rw [← HALL.out, hlf2]
              have hsum : (quosF t all ws).sum + lf = t := by
                have : leftF t all ws = t - (quosF t all ws).sum := rfl
                omega
              have hq0 : ∀ x ∈ quosF t all ws, 0 ≤ x := by
                intro x hx
                obtain ⟨y, hy, rfl⟩ := List.mem_map.1 hx
                exact (quo_bd htn (HNN.out y hy) (by rw [HALL.out]; exact HM.out y hy) HAP.out).1
              have HQ0 := hidI hq0
              have hql := quosF_len t all ws
              have HLF : Hid (∀ j : Nat, j < lf → (j : Int) < leftF t ws.sum ws) := by
                show ∀ j : Nat, j < lf → (j : Int) < leftF t ws.sum ws
                intro j hj
                rw [← HALL.out, ← hlf]; omega
              have hlf3 : lf ≤ ws.length := by omega
              rw [← hlf]
              rcases hO1.cases_ with ⟨_, h0⟩ | ⟨g9, c9, rfl, hc9, hc9m, hg9b, hg9l⟩
              · rw [h0] at hql; simp at hql; omega
              rcases hO2.cases_ with ⟨_, h0⟩ | ⟨g10, c10, rfl, hc10, hc10m, hg10b, hg10l⟩
              · rw [h0] at hrs; simp at hrs; omega
              have hST : Hid (PK t ws w wr g9 c9 g10 c10 0 (quosF t all ws)) := ⟨by rw [hql] at hO1; exact hO1, ⟨rs, hrs, by rw [hrs] at hO2; exact hO2, fun i hi => by
                have := hRW i hi
                simpa [PKf, alive] using this⟩, hB⟩
              rw [hql, hrs]
              clear hO1 hO2 hRW hB HI hlf hlf2 hHL hq0 hlt hk hc9 hc10 hrs
              generalize quosF t all ws = qs at *
              have HSUM := hidI hsum
              go_wp2
              go_loopw [11] (fun l w2 => ∃ j : Nat, j ≤ lf ∧ l = .int .i64 ((lf : Int) - j) ∧ Hid (PK t ws w w2 g9 c9 g10 c10 j qs)) (fun l _ => (intOf l).toNat)
              case atStart => exact ⟨0, Nat.zero_le _, by simp, hST.out⟩
              case round =>
                obtain ⟨j, hj, rfl, HJ⟩ := hrel
                clear hST
                by_cases hlt : j < lf
                · have tl : decide (((lf : Int) - j) > 0) = true := by simp; omega
                  go_wp2
                  go_loopw [17, 18] (fun bv iv w3 => ∃ i : Nat, i ≤ ws.length ∧ iv = .int .i64 i ∧ ∃ bz : Int, bv = .int .i64 bz ∧ Hid (BI t ws j i bz ∧ PK t ws w w3 g9 c9 g10 c10 j qs)) (fun _ iv _ => ws.length - (intOf iv).toNat)
                  case atStart => exact ⟨0, Nat.zero_le _, rfl, -1, rfl, BI.start t ws j, HJ.out⟩
                  case round =>
                    obtain ⟨i, hi, rfl, bz, rfl, HB⟩ := hrel
                    by_cases hil : i < ws.length
                    · obtain ⟨hBI, hPK⟩ := HB.out
                      have hPK2 := hPK
                      obtain ⟨hO1, ⟨rs, hrs, hO2, hRW⟩, hBW⟩ := hPK
                      have hq := (ownv_cell hO2 i (by omega)).1
                      have hnil : Hid (rs[i] = .slice Option.none 0 0 → (alive t ws j i → rvF t ws i = 0) → wr.cell? ⟨g10, i, Option.none⟩ = some (.slice Option.none 0 0) ∧ BI t ws j (i + 1) bz) := by
                        intro h1 h2
                        rw [h1] at hq
                        exact ⟨hq, BI.skip (by rw [← HALL.out]; exact HAP.out) hBI h2⟩
                      have hcase : (rs[i] = .slice Option.none 0 0 ∧ (alive t ws j i → rvF t ws i = 0)) ∨ (alive t ws j i ∧ ∃ gi ci xi, rs[i] = .slice (some ⟨gi, 0, Option.none⟩) (xi : List Bool).length ci ∧ xi.length ≤ ci ∧ Kd.C Kd.bool wr (some ⟨gi, 0, Option.none⟩) xi.length xi ∧ val xi = (rvF t ws i).toNat ∧ xi.length ≤ 100000) := by
                        have h := hRW i (by omega)
                        unfold PKf at h
                        by_cases hal : alive t ws j i
                        · rw [if_pos hal] at h
                          obtain ⟨xs, h1, h2, h3⟩ := h
                          obtain ⟨A, c, e, hc, hC⟩ := Kd.R_reads h1
                          rcases (Kd.own_of_R h1).2 with ⟨e1, e2⟩ | ⟨gi, ci, cur, e1, _⟩
                          · refine .inl ⟨e1, fun _ => ?_⟩
                            rw [List.length_eq_zero_iff.1 e2] at h2
                            have := rv_nn t ws (by rw [← HALL.out]; exact HAP.out) i
                            simp [val] at h2; omega
                          · rw [e] at e1
                            injection e1 with e2 e3 e4
                            subst e2
                            exact .inr ⟨hal, gi, c, xs, e, hc, hC, h2, h3⟩
                        · rw [if_neg hal] at h
                          exact .inl ⟨h, fun h => absurd h hal⟩
                      rcases hcase with ⟨h1, h2⟩ | ⟨hal, gi, ci, xi, h1, hci, hCi, hvi, hli⟩
                      · obtain ⟨hq, hn⟩ := hnil.out h1 h2
                        have hfin : Hid (BI t ws j (i + 1) bz ∧ PK t ws w wr.drew g9 c9 g10 c10 j qs) := ⟨hn, hPK2.below (drew_b _)⟩
                        clear hBI hPK2 hO1 hO2 hRW hBW hnil h1 h2 hn HB HJ
                        go_wp2_with fail
                        refine start_ (n := 20) (S := fun w' => w'.cell? ⟨g10, i, Option.none⟩ = some (.slice Option.none 0 0)) (ds := []) #[false, false, false, false, false, false, false, false, false, false, false, false, false, false, false, false, false, false, false, false] (by kernel_rfl) rfl rfl (hq) (fun hHeld => ?_)
                        refine pure_ (i := 0) (N := some 89) (v := ?_) (a' := ?_) #[true, false, false, false, false, false, false, false, false, false, false, false, false, false, false, false, false, false, false, false] rfl rfl (by kernel_rfl) (fun _ _ _ h => h) (Or.inl ⟨by rfl, ?_⟩) ?_ ?_
                        rotate_left
                        · intro w'
                          go_simp
                          with_reducible rfl
                        rotate_left
                        · simp only [Act.put, List.setIfInBounds_toArray, List.set_cons_zero, List.set_cons_succ, i64_w, i32_w]
                          rfl
                        refine pure_ (i := 1) (N := some 90) (v := ?_) (a' := ?_) #[true, true, false, false, false, false, false, false, false, false, false, false, false, false, false, false, false, false, false, false] rfl rfl (by kernel_rfl) (fun _ _ _ h => h) (Or.inl ⟨by rfl, ?_⟩) ?_ ?_
                        rotate_left
                        · intro w'
                          go_simp
                          with_reducible rfl
                        rotate_left
                        · simp only [Act.put, List.setIfInBounds_toArray, List.set_cons_zero, List.set_cons_succ, i64_w, i32_w]
                          rfl
                        refine pure_ (i := 2) (N := some 91) (v := ?_) (a' := ?_) #[true, true, true, false, false, false, false, false, false, false, false, false, false, false, false, false, false, false, false, false] rfl rfl (by kernel_rfl) (fun _ _ _ h => h) (Or.inl ⟨by rfl, ?_⟩) ?_ ?_
                        rotate_left
                        · intro w'
                          go_simp
                          with_reducible rfl
                        rotate_left
                        · simp only [Act.put, List.setIfInBounds_toArray, List.set_cons_zero, List.set_cons_succ, i64_w, i32_w]
                          rfl
                        refine take_ (i := 3) (N := some 92) (v := ?_) (a' := ?_) #[true, true, true, true, false, false, false, false, false, false, false, false, false, false, false, false, false, false, false, false] rfl rfl (by kernel_rfl) (fun _ _ _ h => h) (Or.inl ⟨by rfl, ?_⟩) hHeld ?_ ?_
                        rotate_left
                        · intro w' s0
                          go_simp
                          with_reducible rfl
                        rotate_left
                        · simp only [Act.put, List.setIfInBounds_toArray, List.set_cons_zero, List.set_cons_succ, i64_w, i32_w]
                          rfl
                        refine pure_ (i := 4) (N := some 93) (v := ?_) (a' := ?_) #[true, true, true, true, true, false, false, false, false, false, false, false, false, false, false, false, false, false, false, false] rfl rfl (by kernel_rfl) (fun _ _ _ h => h) (Or.inl ⟨by rfl, ?_⟩) ?_ ?_
                        rotate_left
                        · intro w'
                          go_simp
                          with_reducible rfl
                        rotate_left
                        · simp only [Act.put, List.setIfInBounds_toArray, List.set_cons_zero, List.set_cons_succ, i64_w, i32_w]
                          rfl
                        refine pure_ (i := 5) (N := some 94) (v := ?_) (a' := ?_) #[true, true, true, true, true, true, false, false, false, false, false, false, false, false, false, false, false, false, false, false] rfl rfl (by kernel_rfl) (fun _ _ _ h => h) (Or.inl ⟨by rfl, ?_⟩) ?_ ?_
                        rotate_left
                        · intro w'
                          go_simp
                          with_reducible rfl
                        rotate_left
                        · simp only [Act.put, List.setIfInBounds_toArray, List.set_cons_zero, List.set_cons_succ, i64_w, i32_w]
                          rfl
                        refine pure_ (i := 6) (N := some 95) (v := undef) (a' := ?_) #[true, true, true, true, true, true, true, false, false, false, false, false, false, false, false, false, false, false, false, false] rfl rfl (by kernel_rfl) (fun _ _ _ h => h) (Or.inr ⟨by rfl, rfl⟩) ?_ ?_
                        rotate_left
                        · simp only [Act.put, List.setIfInBounds_toArray, List.set_cons_zero, List.set_cons_succ, i64_w, i32_w]
                          rfl
                        refine pure_ (i := 7) (N := some 96) (v := undef) (a' := ?_) #[true, true, true, true, true, true, true, true, false, false, false, false, false, false, false, false, false, false, false, false] rfl rfl (by kernel_rfl) (fun _ _ _ h => h) (Or.inr ⟨by rfl, rfl⟩) ?_ ?_
                        rotate_left
                        · simp only [Act.put, List.setIfInBounds_toArray, List.set_cons_zero, List.set_cons_succ, i64_w, i32_w]
                          rfl
                        refine pure_ (i := 8) (N := some 97) (v := undef) (a' := ?_) #[true, true, true, true, true, true, true, true, true, false, false, false, false, false, false, false, false, false, false, false] rfl rfl (by kernel_rfl) (fun _ _ _ h => h) (Or.inr ⟨by rfl, rfl⟩) ?_ ?_
                        rotate_left
                        · simp only [Act.put, List.setIfInBounds_toArray, List.set_cons_zero, List.set_cons_succ, i64_w, i32_w]
                          rfl
                        refine pure_ (i := 9) (N := some 98) (v := undef) (a' := ?_) #[true, true, true, true, true, true, true, true, true, true, false, false, false, false, false, false, false, false, false, false] rfl rfl (by kernel_rfl) (fun _ _ _ h => h) (Or.inr ⟨by rfl, rfl⟩) ?_ ?_
                        rotate_left
                        · simp only [Act.put, List.setIfInBounds_toArray, List.set_cons_zero, List.set_cons_succ, i64_w, i32_w]
                          rfl
                        refine pure_ (i := 10) (N := some 99) (v := undef) (a' := ?_) #[true, true, true, true, true, true, true, true, true, true, true, false, false, false, false, false, false, false, false, false] rfl rfl (by kernel_rfl) (fun _ _ _ h => h) (Or.inr ⟨by rfl, rfl⟩) ?_ ?_
                        rotate_left
                        · simp only [Act.put, List.setIfInBounds_toArray, List.set_cons_zero, List.set_cons_succ, i64_w, i32_w]
                          rfl
                        refine pure_ (i := 11) (N := some 100) (v := undef) (a' := ?_) #[true, true, true, true, true, true, true, true, true, true, true, true, false, false, false, false, false, false, false, false] rfl rfl (by kernel_rfl) (fun _ _ _ h => h) (Or.inr ⟨by rfl, rfl⟩) ?_ ?_
                        rotate_left
                        · simp only [Act.put, List.setIfInBounds_toArray, List.set_cons_zero, List.set_cons_succ, i64_w, i32_w]
                          rfl
                        refine pure_ (i := 12) (N := some 101) (v := undef) (a' := ?_) #[true, true, true, true, true, true, true, true, true, true, true, true, true, false, false, false, false, false, false, false] rfl rfl (by kernel_rfl) (fun _ _ _ h => h) (Or.inr ⟨by rfl, rfl⟩) ?_ ?_
                        rotate_left
                        · simp only [Act.put, List.setIfInBounds_toArray, List.set_cons_zero, List.set_cons_succ, i64_w, i32_w]
                          rfl
                        refine pure_ (i := 13) (N := some 102) (v := undef) (a' := ?_) #[true, true, true, true, true, true, true, true, true, true, true, true, true, true, false, false, false, false, false, false] rfl rfl (by kernel_rfl) (fun _ _ _ h => h) (Or.inr ⟨by rfl, rfl⟩) ?_ ?_
                        rotate_left
                        · simp only [Act.put, List.setIfInBounds_toArray, List.set_cons_zero, List.set_cons_succ, i64_w, i32_w]
                          rfl
                        refine pure_ (i := 14) (N := some 103) (v := undef) (a' := ?_) #[true, true, true, true, true, true, true, true, true, true, true, true, true, true, true, false, false, false, false, false] rfl rfl (by kernel_rfl) (fun _ _ _ h => h) (Or.inr ⟨by rfl, rfl⟩) ?_ ?_
                        rotate_left
                        · simp only [Act.put, List.setIfInBounds_toArray, List.set_cons_zero, List.set_cons_succ, i64_w, i32_w]
                          rfl
                        refine pure_ (i := 15) (N := some 104) (v := undef) (a' := ?_) #[true, true, true, true, true, true, true, true, true, true, true, true, true, true, true, true, false, false, false, false] rfl rfl (by kernel_rfl) (fun _ _ _ h => h) (Or.inr ⟨by rfl, rfl⟩) ?_ ?_
                        rotate_left
                        · simp only [Act.put, List.setIfInBounds_toArray, List.set_cons_zero, List.set_cons_succ, i64_w, i32_w]
                          rfl
                        refine pure_ (i := 16) (N := some 105) (v := undef) (a' := ?_) #[true, true, true, true, true, true, true, true, true, true, true, true, true, true, true, true, true, false, false, false] rfl rfl (by kernel_rfl) (fun _ _ _ h => h) (Or.inr ⟨by rfl, rfl⟩) ?_ ?_
                        rotate_left
                        · simp only [Act.put, List.setIfInBounds_toArray, List.set_cons_zero, List.set_cons_succ, i64_w, i32_w]
                          rfl
                        refine pure_ (i := 17) (N := some 106) (v := undef) (a' := ?_) #[true, true, true, true, true, true, true, true, true, true, true, true, true, true, true, true, true, true, false, false] rfl rfl (by kernel_rfl) (fun _ _ _ h => h) (Or.inr ⟨by rfl, rfl⟩) ?_ ?_
                        rotate_left
                        · simp only [Act.put, List.setIfInBounds_toArray, List.set_cons_zero, List.set_cons_succ, i64_w, i32_w]
                          rfl
                        refine pure_ (i := 18) (N := some 107) (v := undef) (a' := ?_) #[true, true, true, true, true, true, true, true, true, true, true, true, true, true, true, true, true, true, true, false] rfl rfl (by kernel_rfl) (fun _ _ _ h => h) (Or.inr ⟨by rfl, rfl⟩) ?_ ?_
                        rotate_left
                        · simp only [Act.put, List.setIfInBounds_toArray, List.set_cons_zero, List.set_cons_succ, i64_w, i32_w]
                          rfl
                        refine pure_ (i := 19) (N := some 108) (v := ?_) (a' := ?_) #[true, true, true, true, true, true, true, true, true, true, true, true, true, true, true, true, true, true, true, true] rfl rfl (by kernel_rfl) (fun _ _ _ h => h) (Or.inl ⟨by rfl, ?_⟩) ?_ ?_
                        rotate_left
                        · intro w'
                          go_simp
                          with_reducible rfl
                        rotate_left
                        · simp only [Act.put, List.setIfInBounds_toArray, List.set_cons_zero, List.set_cons_succ, i64_w, i32_w]
                          rfl
                        refine done_ (by kernel_rfl) ?_
                        go_wp2
                        go_roundw
                        case rel => exact ⟨i + 1, by omega, by go_num, bz, rfl, hfin.out⟩
                        case measure => simp [intOf]; omega
                      · rw [h1] at hq
                        clear hnil
                        by_cases hbz : bz < 0
                        · have hfin : Hid (BI t ws j (i + 1) i ∧ PK t ws w wr.drew g9 c9 g10 c10 j qs) := ⟨BI.first (by rw [← HALL.out]; exact HAP.out) hBI hbz hal, hPK2.below (drew_b _)⟩
                          have tb : decide (bz < 0) = true := by simpa using hbz
                          clear hBI hPK2 hO1 hO2 hRW hBW h1 HB HJ hCi
                          go_wp2_with fail
                          refine start_ (n := 20) (S := fun w' => w'.cell? ⟨g10, i, Option.none⟩ = some (.slice (some ⟨gi, 0, Option.none⟩) xi.length ci)) (ds := []) #[false, false, false, false, false, false, false, false, false, false, false, false, false, false, false, false, false, false, false, false] (by kernel_rfl) rfl rfl (hq) (fun hHeld => ?_)
                          refine pure_ (i := 0) (N := some 89) (v := ?_) (a' := ?_) #[true, false, false, false, false, false, false, false, false, false, false, false, false, false, false, false, false, false, false, false] rfl rfl (by kernel_rfl) (fun _ _ _ h => h) (Or.inl ⟨by rfl, ?_⟩) ?_ ?_
                          rotate_left
                          · intro w'
                            go_simp
                            with_reducible rfl
                          rotate_left
                          · simp only [Act.put, List.setIfInBounds_toArray, List.set_cons_zero, List.set_cons_succ, i64_w, i32_w]
                            rfl
                          refine pure_ (i := 1) (N := some 90) (v := ?_) (a' := ?_) #[true, true, false, false, false, false, false, false, false, false, false, false, false, false, false, false, false, false, false, false] rfl rfl (by kernel_rfl) (fun _ _ _ h => h) (Or.inl ⟨by rfl, ?_⟩) ?_ ?_
                          rotate_left
                          · intro w'
                            go_simp
                            with_reducible rfl
                          rotate_left
                          · simp only [Act.put, List.setIfInBounds_toArray, List.set_cons_zero, List.set_cons_succ, i64_w, i32_w]
                            rfl
                          refine pure_ (i := 2) (N := some 91) (v := ?_) (a' := ?_) #[true, true, true, false, false, false, false, false, false, false, false, false, false, false, false, false, false, false, false, false] rfl rfl (by kernel_rfl) (fun _ _ _ h => h) (Or.inl ⟨by rfl, ?_⟩) ?_ ?_
                          rotate_left
                          · intro w'
                            go_simp
                            with_reducible rfl
                          rotate_left
                          · simp only [Act.put, List.setIfInBounds_toArray, List.set_cons_zero, List.set_cons_succ, i64_w, i32_w]
                            rfl
                          refine take_ (i := 3) (N := some 92) (v := ?_) (a' := ?_) #[true, true, true, true, false, false, false, false, false, false, false, false, false, false, false, false, false, false, false, false] rfl rfl (by kernel_rfl) (fun _ _ _ h => h) (Or.inl ⟨by rfl, ?_⟩) hHeld ?_ ?_
                          rotate_left
                          · intro w' s0
                            go_simp
                            with_reducible rfl
                          rotate_left
                          · simp only [Act.put, List.setIfInBounds_toArray, List.set_cons_zero, List.set_cons_succ, i64_w, i32_w]
                            rfl
                          refine pure_ (i := 4) (N := some 93) (v := ?_) (a' := ?_) #[true, true, true, true, true, false, false, false, false, false, false, false, false, false, false, false, false, false, false, false] rfl rfl (by kernel_rfl) (fun _ _ _ h => h) (Or.inl ⟨by rfl, ?_⟩) ?_ ?_
                          rotate_left
                          · intro w'
                            go_simp
                            with_reducible rfl
                          rotate_left
                          · simp only [Act.put, List.setIfInBounds_toArray, List.set_cons_zero, List.set_cons_succ, i64_w, i32_w]
                            rfl
                          refine pure_ (i := 5) (N := some 94) (v := ?_) (a' := ?_) #[true, true, true, true, true, true, false, false, false, false, false, false, false, false, false, false, false, false, false, false] rfl rfl (by kernel_rfl) (fun _ _ _ h => h) (Or.inl ⟨by rfl, ?_⟩) ?_ ?_
                          rotate_left
                          · intro w'
                            go_simp
                            with_reducible rfl
                          rotate_left
                          · simp only [Act.put, List.setIfInBounds_toArray, List.set_cons_zero, List.set_cons_succ, i64_w, i32_w]
                            rfl
                          refine pure_ (i := 6) (N := some 95) (v := ?_) (a' := ?_) #[true, true, true, true, true, true, true, false, false, false, false, false, false, false, false, false, false, false, false, false] rfl rfl (by kernel_rfl) (fun _ _ _ h => h) (Or.inl ⟨by rfl, ?_⟩) ?_ ?_
                          rotate_left
                          · intro w'
                            go_simp
                            with_reducible rfl
                          rotate_left
                          · simp only [Act.put, List.setIfInBounds_toArray, List.set_cons_zero, List.set_cons_succ, i64_w, i32_w]
                            rfl
                          refine pure_ (i := 7) (N := some 96) (v := ?_) (a' := ?_) #[true, true, true, true, true, true, true, true, false, false, false, false, false, false, false, false, false, false, false, false] rfl rfl (by kernel_rfl) (fun _ _ _ h => h) (Or.inl ⟨by rfl, ?_⟩) ?_ ?_
                          rotate_left
                          · intro w'
                            go_simp
                            with_reducible rfl
                          rotate_left
                          · simp only [Act.put, List.setIfInBounds_toArray, List.set_cons_zero, List.set_cons_succ, i64_w, i32_w]
                            rfl
                          refine pure_ (i := 8) (N := some 97) (v := ?_) (a' := ?_) #[true, true, true, true, true, true, true, true, true, false, false, false, false, false, false, false, false, false, false, false] rfl rfl (by kernel_rfl) (fun _ _ _ h => h) (Or.inl ⟨by rfl, ?_⟩) ?_ ?_
                          rotate_left
                          · intro w'
                            go_simp
                            with_reducible rfl
                          rotate_left
                          · simp only [Act.put, List.setIfInBounds_toArray, List.set_cons_zero, List.set_cons_succ, i64_w, i32_w]
                            rfl
                          refine pure_ (i := 9) (N := some 98) (v := undef) (a' := ?_) #[true, true, true, true, true, true, true, true, true, true, false, false, false, false, false, false, false, false, false, false] rfl rfl (by kernel_rfl) (fun _ _ _ h => h) (Or.inr ⟨by rfl, rfl⟩) ?_ ?_
                          rotate_left
                          · simp only [Act.put, List.setIfInBounds_toArray, List.set_cons_zero, List.set_cons_succ, i64_w, i32_w]
                            rfl
                          refine pure_ (i := 10) (N := some 99) (v := undef) (a' := ?_) #[true, true, true, true, true, true, true, true, true, true, true, false, false, false, false, false, false, false, false, false] rfl rfl (by kernel_rfl) (fun _ _ _ h => h) (Or.inr ⟨by rfl, rfl⟩) ?_ ?_
                          rotate_left
                          · simp only [Act.put, List.setIfInBounds_toArray, List.set_cons_zero, List.set_cons_succ, i64_w, i32_w]
                            rfl
                          refine pure_ (i := 11) (N := some 100) (v := undef) (a' := ?_) #[true, true, true, true, true, true, true, true, true, true, true, true, false, false, false, false, false, false, false, false] rfl rfl (by kernel_rfl) (fun _ _ _ h => h) (Or.inr ⟨by rfl, rfl⟩) ?_ ?_
                          rotate_left
                          · simp only [Act.put, List.setIfInBounds_toArray, List.set_cons_zero, List.set_cons_succ, i64_w, i32_w]
                            rfl
                          refine pure_ (i := 12) (N := some 101) (v := undef) (a' := ?_) #[true, true, true, true, true, true, true, true, true, true, true, true, true, false, false, false, false, false, false, false] rfl rfl (by kernel_rfl) (fun _ _ _ h => h) (Or.inr ⟨by rfl, rfl⟩) ?_ ?_
                          rotate_left
                          · simp only [Act.put, List.setIfInBounds_toArray, List.set_cons_zero, List.set_cons_succ, i64_w, i32_w]
                            rfl
                          refine pure_ (i := 13) (N := some 102) (v := undef) (a' := ?_) #[true, true, true, true, true, true, true, true, true, true, true, true, true, true, false, false, false, false, false, false] rfl rfl (by kernel_rfl) (fun _ _ _ h => h) (Or.inr ⟨by rfl, rfl⟩) ?_ ?_
                          rotate_left
                          · simp only [Act.put, List.setIfInBounds_toArray, List.set_cons_zero, List.set_cons_succ, i64_w, i32_w]
                            rfl
                          refine pure_ (i := 14) (N := some 103) (v := undef) (a' := ?_) #[true, true, true, true, true, true, true, true, true, true, true, true, true, true, true, false, false, false, false, false] rfl rfl (by kernel_rfl) (fun _ _ _ h => h) (Or.inr ⟨by rfl, rfl⟩) ?_ ?_
                          rotate_left
                          · simp only [Act.put, List.setIfInBounds_toArray, List.set_cons_zero, List.set_cons_succ, i64_w, i32_w]
                            rfl
                          refine pure_ (i := 15) (N := some 104) (v := undef) (a' := ?_) #[true, true, true, true, true, true, true, true, true, true, true, true, true, true, true, true, false, false, false, false] rfl rfl (by kernel_rfl) (fun _ _ _ h => h) (Or.inr ⟨by rfl, rfl⟩) ?_ ?_
                          rotate_left
                          · simp only [Act.put, List.setIfInBounds_toArray, List.set_cons_zero, List.set_cons_succ, i64_w, i32_w]
                            rfl
                          refine pure_ (i := 16) (N := some 105) (v := undef) (a' := ?_) #[true, true, true, true, true, true, true, true, true, true, true, true, true, true, true, true, true, false, false, false] rfl rfl (by kernel_rfl) (fun _ _ _ h => h) (Or.inr ⟨by rfl, rfl⟩) ?_ ?_
                          rotate_left
                          · simp only [Act.put, List.setIfInBounds_toArray, List.set_cons_zero, List.set_cons_succ, i64_w, i32_w]
                            rfl
                          refine pure_ (i := 17) (N := some 106) (v := undef) (a' := ?_) #[true, true, true, true, true, true, true, true, true, true, true, true, true, true, true, true, true, true, false, false] rfl rfl (by kernel_rfl) (fun _ _ _ h => h) (Or.inr ⟨by rfl, rfl⟩) ?_ ?_
                          rotate_left
                          · simp only [Act.put, List.setIfInBounds_toArray, List.set_cons_zero, List.set_cons_succ, i64_w, i32_w]
                            rfl
                          refine pure_ (i := 18) (N := some 107) (v := ?_) (a' := ?_) #[true, true, true, true, true, true, true, true, true, true, true, true, true, true, true, true, true, true, true, false] rfl rfl (by kernel_rfl) (fun _ _ _ h => h) (Or.inl ⟨by rfl, ?_⟩) ?_ ?_
                          rotate_left
                          · intro w'
                            go_simp
                            with_reducible rfl
                          rotate_left
                          · simp only [Act.put, List.setIfInBounds_toArray, List.set_cons_zero, List.set_cons_succ, i64_w, i32_w]
                            rfl
                          refine pure_ (i := 19) (N := some 108) (v := ?_) (a' := ?_) #[true, true, true, true, true, true, true, true, true, true, true, true, true, true, true, true, true, true, true, true] rfl rfl (by kernel_rfl) (fun _ _ _ h => h) (Or.inl ⟨by rfl, ?_⟩) ?_ ?_
                          rotate_left
                          · intro w'
                            go_simp
                            with_reducible rfl
                          rotate_left
                          · simp only [Act.put, List.setIfInBounds_toArray, List.set_cons_zero, List.set_cons_succ, i64_w, i32_w]
                            rfl
                          refine done_ (by kernel_rfl) ?_
                          go_wp2
                          go_roundw
                          case rel => exact ⟨i + 1, by omega, by go_num, i, rfl, hfin.out⟩
                          case measure => simp [intOf]; omega
                        · obtain ⟨b, hb0⟩ : ∃ b : Nat, bz = b := ⟨bz.toNat, by omega⟩
                          subst hb0
                          obtain ⟨hbi, hba⟩ := hBI.alive_
                          have h := hRW b (by omega)
                          unfold PKf at h
                          rw [if_pos hba] at h
                          obtain ⟨xb, hb1, hvb, hlb⟩ := h
                          obtain ⟨Ab, cb, eb, hcb, hCb⟩ := Kd.R_reads hb1
                          have hbl : b < ws.length := by omega
                          have hq2 := (ownv_cell hO2 b (by omega)).1
                          rw [eb] at hq2
                          have tb : decide ((b : Int) < 0) = false := by simp
                          have hless : (decide (val xb < val xi)) = decide (rvF t ws b < rvF t ws i) := by
                            have := rv_nn t ws (by rw [← HALL.out]; exact HAP.out) i
                            have := rv_nn t ws (by rw [← HALL.out]; exact HAP.out) b
                            rw [hvb, hvi]
                            apply decide_eq_decide.2; omega
                          have HLS := hidI hless
                          have hfin : Hid (∀ w7, Below wr.drew.heap.size wr.drew w7 → ((rvF t ws b < rvF t ws i → BI t ws j (i + 1) i) ∧ (¬ rvF t ws b < rvF t ws i → BI t ws j (i + 1) b)) ∧ PK t ws w w7 g9 c9 g10 c10 j qs) := fun w7 hb7 => ⟨⟨fun hl => hBI.take hal hl, fun hl => hBI.keep hl⟩, (hPK2.below (drew_b _)).below hb7⟩
                          have HCb := hidI (Kd.C_below hCb (drew_b wr))
                          have HCb2 := hidI hcb
                          have HCi := hidI (Kd.C_below hCi (drew_b wr))
                          have HCi2 := hidI hci
                          have HLb := hidI hlb
                          have HLi := hidI hli
                          clear hBI hPK2 hO1 hO2 hRW hBW h1 HB HJ hCi hCb hb1 eb hvb hlb hcb hli hvi hci hless hbz
                          go_wp2_with fail
                          refine start_ (n := 20) (S := fun w' => w'.cell? ⟨g10, i, Option.none⟩ = some (.slice (some ⟨gi, 0, Option.none⟩) xi.length ci) ∧ w'.cell? ⟨g10, b, Option.none⟩ = some (.slice Ab xb.length cb)) (ds := []) #[false, false, false, false, false, false, false, false, false, false, false, false, false, false, false, false, false, false, false, false] (by kernel_rfl) rfl rfl ⟨hq, hq2⟩ (fun hHeld => ?_)
                          refine pure_ (i := 0) (N := some 89) (v := ?_) (a' := ?_) #[true, false, false, false, false, false, false, false, false, false, false, false, false, false, false, false, false, false, false, false] rfl rfl (by kernel_rfl) (fun _ _ _ h => h) (Or.inl ⟨by rfl, ?_⟩) ?_ ?_
                          rotate_left
                          · intro w'
                            go_simp
                            with_reducible rfl
                          rotate_left
                          · simp only [Act.put, List.setIfInBounds_toArray, List.set_cons_zero, List.set_cons_succ, i64_w, i32_w]
                            rfl
                          refine pure_ (i := 1) (N := some 90) (v := ?_) (a' := ?_) #[true, true, false, false, false, false, false, false, false, false, false, false, false, false, false, false, false, false, false, false] rfl rfl (by kernel_rfl) (fun _ _ _ h => h) (Or.inl ⟨by rfl, ?_⟩) ?_ ?_
                          rotate_left
                          · intro w'
                            go_simp
                            with_reducible rfl
                          rotate_left
                          · simp only [Act.put, List.setIfInBounds_toArray, List.set_cons_zero, List.set_cons_succ, i64_w, i32_w]
                            rfl
                          refine pure_ (i := 2) (N := some 91) (v := ?_) (a' := ?_) #[true, true, true, false, false, false, false, false, false, false, false, false, false, false, false, false, false, false, false, false] rfl rfl (by kernel_rfl) (fun _ _ _ h => h) (Or.inl ⟨by rfl, ?_⟩) ?_ ?_
                          rotate_left
                          · intro w'
                            go_simp
                            with_reducible rfl
                          rotate_left
                          · simp only [Act.put, List.setIfInBounds_toArray, List.set_cons_zero, List.set_cons_succ, i64_w, i32_w]
                            rfl
                          refine take_ (i := 3) (N := some 92) (v := ?_) (a' := ?_) #[true, true, true, true, false, false, false, false, false, false, false, false, false, false, false, false, false, false, false, false] rfl rfl (by kernel_rfl) (fun _ _ _ h => h) (Or.inl ⟨by rfl, ?_⟩) hHeld ?_ ?_
                          rotate_left
                          · rintro w' ⟨s0, s1⟩
                            go_simp
                            with_reducible rfl
                          rotate_left
                          · simp only [Act.put, List.setIfInBounds_toArray, List.set_cons_zero, List.set_cons_succ, i64_w, i32_w]
                            rfl
                          refine pure_ (i := 4) (N := some 93) (v := ?_) (a' := ?_) #[true, true, true, true, true, false, false, false, false, false, false, false, false, false, false, false, false, false, false, false] rfl rfl (by kernel_rfl) (fun _ _ _ h => h) (Or.inl ⟨by rfl, ?_⟩) ?_ ?_
                          rotate_left
                          · intro w'
                            go_simp
                            with_reducible rfl
                          rotate_left
                          · simp only [Act.put, List.setIfInBounds_toArray, List.set_cons_zero, List.set_cons_succ, i64_w, i32_w]
                            rfl
                          refine pure_ (i := 5) (N := some 94) (v := ?_) (a' := ?_) #[true, true, true, true, true, true, false, false, false, false, false, false, false, false, false, false, false, false, false, false] rfl rfl (by kernel_rfl) (fun _ _ _ h => h) (Or.inl ⟨by rfl, ?_⟩) ?_ ?_
                          rotate_left
                          · intro w'
                            go_simp
                            with_reducible rfl
                          rotate_left
                          · simp only [Act.put, List.setIfInBounds_toArray, List.set_cons_zero, List.set_cons_succ, i64_w, i32_w]
                            rfl
                          refine pure_ (i := 6) (N := some 95) (v := ?_) (a' := ?_) #[true, true, true, true, true, true, true, false, false, false, false, false, false, false, false, false, false, false, false, false] rfl rfl (by kernel_rfl) (fun _ _ _ h => h) (Or.inl ⟨by rfl, ?_⟩) ?_ ?_
                          rotate_left
                          · intro w'
                            go_simp
                            with_reducible rfl
                          rotate_left
                          · simp only [Act.put, List.setIfInBounds_toArray, List.set_cons_zero, List.set_cons_succ, i64_w, i32_w]
                            rfl
                          refine pure_ (i := 7) (N := some 96) (v := ?_) (a' := ?_) #[true, true, true, true, true, true, true, true, false, false, false, false, false, false, false, false, false, false, false, false] rfl rfl (by kernel_rfl) (fun _ _ _ h => h) (Or.inl ⟨by rfl, ?_⟩) ?_ ?_
                          rotate_left
                          · intro w'
                            go_simp
                            with_reducible rfl
                          rotate_left
                          · simp only [Act.put, List.setIfInBounds_toArray, List.set_cons_zero, List.set_cons_succ, i64_w, i32_w]
                            rfl
                          refine pure_ (i := 8) (N := some 97) (v := ?_) (a' := ?_) #[true, true, true, true, true, true, true, true, true, false, false, false, false, false, false, false, false, false, false, false] rfl rfl (by kernel_rfl) (fun _ _ _ h => h) (Or.inl ⟨by rfl, ?_⟩) ?_ ?_
                          rotate_left
                          · intro w'
                            go_simp
                            with_reducible rfl
                          rotate_left
                          · simp only [Act.put, List.setIfInBounds_toArray, List.set_cons_zero, List.set_cons_succ, i64_w, i32_w]
                            rfl
                          refine pure_ (i := 9) (N := some 98) (v := ?_) (a' := ?_) #[true, true, true, true, true, true, true, true, true, true, false, false, false, false, false, false, false, false, false, false] rfl rfl (by kernel_rfl) (fun _ _ _ h => h) (Or.inl ⟨by rfl, ?_⟩) ?_ ?_
                          rotate_left
                          · intro w'
                            go_simp
                            with_reducible rfl
                          rotate_left
                          · simp only [Act.put, List.setIfInBounds_toArray, List.set_cons_zero, List.set_cons_succ, i64_w, i32_w]
                            rfl
                          refine pure_ (i := 10) (N := some 99) (v := ?_) (a' := ?_) #[true, true, true, true, true, true, true, true, true, true, true, false, false, false, false, false, false, false, false, false] rfl rfl (by kernel_rfl) (fun _ _ _ h => h) (Or.inl ⟨by rfl, ?_⟩) ?_ ?_
                          rotate_left
                          · intro w'
                            go_simp
                            with_reducible rfl
                          rotate_left
                          · simp only [Act.put, List.setIfInBounds_toArray, List.set_cons_zero, List.set_cons_succ, i64_w, i32_w]
                            rfl
                          refine pure_ (i := 11) (N := some 100) (v := ?_) (a' := ?_) #[true, true, true, true, true, true, true, true, true, true, true, true, false, false, false, false, false, false, false, false] rfl rfl (by kernel_rfl) (fun _ _ _ h => h) (Or.inl ⟨by rfl, ?_⟩) ?_ ?_
                          rotate_left
                          · intro w'
                            go_simp
                            with_reducible rfl
                          rotate_left
                          · simp only [Act.put, List.setIfInBounds_toArray, List.set_cons_zero, List.set_cons_succ, i64_w, i32_w]
                            rfl
                          refine pure_ (i := 13) (N := some 102) (v := ?_) (a' := ?_) #[true, true, true, true, true, true, true, true, true, true, true, true, false, true, false, false, false, false, false, false] rfl rfl (by kernel_rfl) (fun _ _ _ h => h) (Or.inl ⟨by rfl, ?_⟩) ?_ ?_
                          rotate_left
                          · intro w'
                            go_simp
                            with_reducible rfl
                          rotate_left
                          · simp only [Act.put, List.setIfInBounds_toArray, List.set_cons_zero, List.set_cons_succ, i64_w, i32_w]
                            rfl
                          refine pure_ (i := 14) (N := some 103) (v := ?_) (a' := ?_) #[true, true, true, true, true, true, true, true, true, true, true, true, false, true, true, false, false, false, false, false] rfl rfl (by kernel_rfl) (fun _ _ _ h => h) (Or.inl ⟨by rfl, ?_⟩) ?_ ?_
                          rotate_left
                          · intro w'
                            go_simp
                            with_reducible rfl
                          rotate_left
                          · simp only [Act.put, List.setIfInBounds_toArray, List.set_cons_zero, List.set_cons_succ, i64_w, i32_w]
                            rfl
                          refine pure_ (i := 15) (N := some 104) (v := ?_) (a' := ?_) #[true, true, true, true, true, true, true, true, true, true, true, true, false, true, true, true, false, false, false, false] rfl rfl (by kernel_rfl) (fun _ _ _ h => h) (Or.inl ⟨by rfl, ?_⟩) ?_ ?_
                          rotate_left
                          · intro w'
                            go_simp
                            with_reducible rfl
                          rotate_left
                          · simp only [Act.put, List.setIfInBounds_toArray, List.set_cons_zero, List.set_cons_succ, i64_w, i32_w]
                            rfl
                          refine take_ (i := 12) (N := some 101) (v := ?_) (a' := ?_) #[true, true, true, true, true, true, true, true, true, true, true, true, true, true, true, true, false, false, false, false] rfl rfl (by kernel_rfl) (fun _ _ _ h => h) (Or.inl ⟨by rfl, ?_⟩) hHeld ?_ ?_
                          rotate_left
                          · rintro w' ⟨s0, s1⟩
                            go_simp
                            with_reducible rfl
                          rotate_left
                          · simp only [Act.put, List.setIfInBounds_toArray, List.set_cons_zero, List.set_cons_succ, i64_w, i32_w]
                            rfl
                          refine take_ (i := 16) (N := some 105) (v := ?_) (a' := ?_) #[true, true, true, true, true, true, true, true, true, true, true, true, true, true, true, true, true, false, false, false] rfl rfl (by kernel_rfl) (fun _ _ _ h => h) (Or.inl ⟨by rfl, ?_⟩) hHeld ?_ ?_
                          rotate_left
                          · rintro w' ⟨s0, s1⟩
                            go_simp
                            with_reducible rfl
                          rotate_left
                          · simp only [Act.put, List.setIfInBounds_toArray, List.set_cons_zero, List.set_cons_succ, i64_w, i32_w]
                            rfl
                          refine one_ (i := 17) (N := some 106) #[true, true, true, true, true, true, true, true, true, true, true, true, true, true, true, true, true, true, false, false] rfl rfl (by kernel_rfl) (by decide) (fun K hK => ?_)
                          refine goes_ Try.func47 (by kernel_rfl) rfl #[.slice Ab xb.length cb, .slice (some ⟨gi, 0, Option.none⟩) xi.length ci] (by rfl) rfl rfl (by simp only [List.map_toArray, List.map_cons, List.map_nil]; rfl) ?_
                          with_reducible refine (less_c _ _ _ _ _ _ _ HCb.out HCb2.out HCi.out HCi2.out HLb.out HLi.out).mono ?_
                          rintro e w7 ⟨rfl, hb7⟩
                          refine ⟨_, rfl, ?_⟩
                          refine hK.out _ _ ⟨pw_cell_below hb7 hq, pw_cell_below hb7 hq2⟩ (fun hHeld => ?_)
                          clear hK K
                          refine norm_ (a' := ?_) ?_ ?_
                          rotate_left
                          · show Act.put _ (some 106) _ = _
                            simp only [Act.put, List.setIfInBounds_toArray, List.set_cons_zero, List.set_cons_succ, i64_w, i32_w]
                            rfl
                          refine pure_ (i := 18) (N := some 107) (v := ?_) (a' := ?_) #[true, true, true, true, true, true, true, true, true, true, true, true, true, true, true, true, true, true, true, false] rfl rfl (by kernel_rfl) (fun _ _ _ h => h) (Or.inl ⟨by rfl, ?_⟩) ?_ ?_
                          rotate_left
                          · intro w'
                            go_simp
                            with_reducible rfl
                          rotate_left
                          · simp only [Act.put, List.setIfInBounds_toArray, List.set_cons_zero, List.set_cons_succ, i64_w, i32_w]
                            rfl
                          refine pure_ (i := 19) (N := some 108) (v := ?_) (a' := ?_) #[true, true, true, true, true, true, true, true, true, true, true, true, true, true, true, true, true, true, true, true] rfl rfl (by kernel_rfl) (fun _ _ _ h => h) (Or.inl ⟨by rfl, ?_⟩) ?_ ?_
                          rotate_left
                          · intro w'
                            go_simp
                            with_reducible rfl
                          rotate_left
                          · simp only [Act.put, List.setIfInBounds_toArray, List.set_cons_zero, List.set_cons_succ, i64_w, i32_w]
                            rfl
                          refine done_ (by kernel_rfl) ?_
                          have hf7 := hfin.out w7 hb7
                          rw [HLS.out]
                          by_cases hl : rvF t ws b < rvF t ws i
                          · have hfin2 : Hid (BI t ws j (i + 1) i ∧ PK t ws w w7 g9 c9 g10 c10 j qs) := ⟨hf7.1.1 hl, hf7.2⟩
                            rw [decide_eq_true hl]
                            clear hf7 hfin HLS hl hb7
                            go_wp2
                            go_roundw
                            case rel => exact ⟨i + 1, by omega, by go_num, i, rfl, hfin2.out⟩
                            case measure => simp [intOf]; omega
                          · have hfin2 : Hid (BI t ws j (i + 1) b ∧ PK t ws w w7 g9 c9 g10 c10 j qs) := ⟨hf7.1.2 (by omega), hf7.2⟩
                            rw [decide_eq_false hl]
                            clear hf7 hfin HLS hl hb7
                            go_wp2
                            go_roundw
                            case rel => exact ⟨i + 1, by omega, by go_num, b, rfl, hfin2.out⟩
                            case measure => simp [intOf]; omega
                    · obtain rfl : i = ws.length := by omega
                      obtain ⟨hBI, hPK⟩ := HB.out
                      have hjl : j < ws.length := by omega
                      obtain ⟨b, rfl, hbn, hord⟩ := hBI.end_ htn HNN.out (by rw [← HALL.out]; exact HAP.out) (HLF.out j hlt) hjl
                      obtain ⟨hO1, ⟨rs, hrs, hO2, hRW⟩, hBW⟩ := hPK
                      have hjl2 : j < (ordF t ws).length := by rw [ord_len]; exact hjl
                      have hvalid : ∀ q ∈ (ordF t ws).take j, 0 ≤ q.f0 ∧ q.f0.toNat < qs.length := by
                        intro q hq
                        obtain ⟨m, hm, rfl⟩ := ord_mem t ws q (List.mem_of_mem_take hq)
                        rw [hql]; simp; omega
                      have hbf := bump_facts ((ordF t ws).take j) qs HQ0.out hvalid
                      have hbs := mem_le_sum _ hbf.1
                      have hbl : (bump qs ((ordF t ws).take j)).length = ws.length := by rw [bump_len, hql]
                      obtain ⟨c3, f3⟩ := own_cell hO1 b (by omega)
                      obtain ⟨x, hx⟩ : ∃ x, x = (bump qs ((ordF t ws).take j))[b] := ⟨_, rfl⟩
                      rw [← hx] at c3
                      have hxb : 0 ≤ x ∧ x < t := by
                        have h1 := hbf.1 x (by rw [hx]; exact List.getElem_mem _)
                        have h2 := hbs x (by rw [hx]; exact List.getElem_mem _)
                        rw [hbf.2, List.length_take, Nat.min_eq_left (by omega)] at h2
                        omega
                      have hst3 : bump qs ((ordF t ws).take (j + 1)) = (bump qs ((ordF t ws).take j)).set b (x + 1) := by
                        rw [List.take_succ_eq_append_getElem hjl2, hord, bump_snoc, List.getD_eq_getElem?_getD]
                        simp only [Int.toNat_natCast]
                        rw [List.getElem?_eq_getElem (by omega), ← hx]; rfl
                      have tb : decide ((b : Int) < 0) = false := by simp
                      have htr := HT.out.2
                      have hg10lt : g10 < wr.heap.size := hO2.lt rfl
                      have hg9lt : g9 < wr.heap.size := hO1.lt rfl
                      have hO1s := own_set hO1 b (by omega) (x + 1)
                      have hO2s := hO2.far (p := ⟨g9, b, Option.none⟩) (fun e => hO1.ne_own hO2 (by decide) g9 rfl e) (.int .i64 (x + 1))
                      have hne := hO2s.ne_own hO1s (by decide) g10 rfl
                      have hO1t := hO1s.far (p := ⟨g10, b, Option.none⟩) (fun e => hne e) (.slice Option.none 0 0)
                      have hO2t := ownv_set hO2s b (by omega) (.slice Option.none 0 0) rfl
                      have hw1 : w.heap.size ≤ g9 := hg9b
                      have hw2 : w.heap.size ≤ g10 := hg10b
                      have hB1 := hBW.setCell (p := ⟨g9, b, Option.none⟩) hw1 (.int .i64 (x + 1))
                      have hB2 := hB1.setCell (p := ⟨g10, b, Option.none⟩) hw2 (.slice Option.none 0 0)
                      have hR1 : ∃ cs, wr.heap[g9]? = some (.cells cs 2 (0, 0)) := hO1.at_ rfl
                      obtain ⟨cs9, hcs9⟩ := hR1
                      obtain ⟨cs10, hcs10⟩ := hO2s.at_ (k := g10) rfl
                      have hRW2 := (hRW.set hcs9 (by decide) b (.int .i64 (x + 1))).set hcs10 (by decide) b (.slice Option.none 0 0)
                      have hfin : Hid (PK t ws w ((wr.setCell ⟨g9, b, Option.none⟩ (.int .i64 (x + 1))).setCell ⟨g10, b, Option.none⟩ (.slice Option.none 0 0)) g9 c9 g10 c10 (j + 1) qs) := by
                        refine ⟨by rw [hst3]; exact hO1t, ⟨rs.set b (.slice Option.none 0 0), by simp [hrs], hO2t, ?_⟩, hB2⟩
                        exact rows_next hjl2 hord hRW2
                      have f4 : wr.frozen? ⟨g10, b, Option.none⟩ = false := (ownv_cell hO2 b (by omega)).2
                      obtain ⟨v4, c4⟩ : ∃ v4, wr.cell? ⟨g10, b, Option.none⟩ = some v4 := ⟨_, (ownv_cell hO2 b (by omega)).1⟩
                      have n1 : ¬ (g9 = g10) := fun e => hO1.ne_own hO2 (by decide) g9 rfl (by rw [e]; rfl)
                      have n2 : ¬ (g10 = g9) := fun e => n1 e.symm
                      clear hBI hO1 hO2 hRW hBW hvalid hbf hbs hbl hst3 hO1s hO2s hne hO1t hO2t hB1 hB2 hcs9 hcs10 hRW2 HB HJ hx
                      go_wp2
                      go_roundw
                      case rel => exact ⟨j + 1, by omega, by go_num, hfin⟩
                      case measure => simp [intOf]; omega
                · obtain rfl : j = lf := by omega
                  have tl : decide (((j : Int) - j) > 0) = false := by simp
                  obtain ⟨hO1, _, hB⟩ := HJ.out
                  have hF : Hid (SplitP t ws w (.returned (.tuple #[.slice (some ⟨g9, 0, Option.none⟩) ws.length c9, .int .i64 0])) wr) := by
                    refine ⟨_, by rw [hst.out], ?_, hB⟩
                    rw [hst.out]
                    simp only []
                    rw [HPF.out]
                    have h := hO1
                    unfold Own at h
                    rw [flat_li, bump_len, hql] at h
                    rw [bump_len, hql]
                    exact h
                  clear hO1 hB HJ
                  go_wp2
                  go_ret2
                  exact hF.out
      · rw [if_neg hov] at ha
        have e : sumR (addF 0 ws) = (0, false) := by rw [ha]; rfl
        rw [e] at hs
        clear ha e
        by_cases ht0 : t < 0
        · have hfin := hidI (fun n => HF.out 1 (w.drewN n) (by rw [hst.out, if_pos ht0]) (below_drN _ n))
          clear hst HF
          go_wp2_with fail
          refine (hs.out _ HR.out).mono ?_
          rintro e w' ⟨rfl, ⟨n, rfl⟩⟩
          simp only []
          go_wp2
          go_ret2
          exact hfin.out n
        · have hfin := hidI (fun n => HF.out 2 (w.drewN n) (by rw [hst.out, if_neg ht0, if_pos hov]) (below_drN _ n))
          clear hst HF
          go_wp2_with fail
          refine (hs.out _ HR.out).mono ?_
          rintro e w' ⟨rfl, ⟨n, rfl⟩⟩
          simp only []
          go_wp2
          go_ret2
          exact hfin.out n
end Go.Proofs.Ytncnhhnbjmpomaa
namespace Go.Proofs.Ytncnhhnbjmpomaa.Q
open Go.RowKit Go.Proofs.YtncnhhnbjmpomaaW.PrintWords Go.Proofs.YtncnhhnbjmpomaaW.PrintLast Go.Proofs.Ytncnhhnbjmpomaa
set_option linter.unusedVariables false
set_option linter.unusedSimpArgs false
def soukref01_Split.f (a0 : Int) (l1 : List Int) : Option (List Int × Int) := if l1.length ≤ 1000 ∧ l1.all inRb = true ∧ inRb a0 = true then some (splitF a0 l1) else none
theorem soukref01_Split.calls (a0 : Int) (A1 : Option Addr) (c1 : Nat) (l1 : List Int) (r1 : List Int) (r2 : Int) (w : World) (hr1 : Kd.C (Kd.int .i64) w A1 l1.length l1) (hc1 : l1.length ≤ c1) (h : soukref01_Split.f a0 l1 = some (r1, r2)) :
    Calls Try.prog 21 #[.int .i64 a0, .slice A1 l1.length c1] w fun e w' => ∃ v0_ : Value, e = .returned (.tuple #[v0_, .int .i64 r2]) ∧ Kd.R (Kd.int .i64) 2 w' w.heap.size (fun _ => True) v0_ r1 ∧ Below w.heap.size w w' := by
  unfold soukref01_Split.f at h
  split at h
  · rename_i hb
    obtain ⟨h1, h2, h3⟩ := hb
    simp only [Option.some.injEq] at h
    refine (rsplit_any a0 A1 c1 l1 w hr1 hc1 h1 (fun x hx => (inRb_iff x).1 (List.all_eq_true.1 h2 x hx)) ((inRb_iff a0).1 h3)).mono ?_
    rintro e w' ⟨v, he, ho, hb⟩
    rw [h] at he ho
    exact ⟨v, he, Kd.R_of_own ho (fun _ _ => trivial), hb⟩
  · cases h
end Go.Proofs.Ytncnhhnbjmpomaa.Q
namespace Go.Proofs.Ytncnhhnbjmpomaa.Q
open Go.RowKit Go.Proofs.YtncnhhnbjmpomaaW.PrintWords Go.Proofs.YtncnhhnbjmpomaaW.PrintLast Go.Proofs.YtncnhhnbjmpomaaW.PrintMore
attribute [local go_sem] max2_int min2_int max_two min_two max_three min_three max_four min_four   -- for this text's walks alone
set_option linter.unusedVariables false
set_option linter.unusedSimpArgs false
def soukref11_Take.l0 : Nat → List Int → Int → Int → Option (List Int × Int)
 | 0, _, _, _ => none
 | k + 1, x0, x1, x6 => if x6 < (x0.length : Int) then (if 0 ≤ x6 then (if (rd x0 x6) < 0 then (some (([] : List Int), 1)) else (soukref11_Take.l0 k x0 x1 (wrap64 (x6 + 1)))) else (none)) else (if x1 ≤ 0 then (some (([] : List Int), 1)) else ((soukref01_Sum.f k x0).bind fun bt443 => (if bt443.2 = true then (if x1 > bt443.1 then (some (([] : List Int), 10)) else ((soukref01_Split.f x1 x0).bind fun bt445 => (some (bt445.1, bt445.2)))) else (some (([] : List Int), 2)))))
def soukref11_Take.f (k : Nat) (l0 : List Int) (a1 : Int) : Option (List Int × Int) := soukref11_Take.l0 k l0 a1 0
set_option maxHeartbeats 8000000 in
set_option maxRecDepth 100000 in
theorem soukref11_Take.calls (k : Nat) (A0 : Option Addr) (c0 : Nat) (l0 : List Int) (a1 : Int) (r1 : List Int) (r2 : Int) (w : World) (hr0 : Kd.C (Kd.int .i64) w A0 l0.length l0) (hc0 : l0.length ≤ c0) (h : soukref11_Take.f k l0 a1 = some (r1, r2)) :
  Calls Try.prog 26 #[.slice A0 l0.length c0, .int .i64 a1] w fun e w' => ∃ v0_ : Value, e = .returned (.tuple #[v0_, .int .i64 r2]) ∧ Kd.R (Kd.int .i64) 2 w' w.heap.size (fun _ => True) v0_ r1 ∧ Below w.heap.size w w' := by
 have HR0 := Aside0.mk hr0
 have HC0 := Aside0.mk hc0
 clear hr0 hc0
 have HB := Aside0.mk (Below.refl w.heap.size w)
 have H : (soukref11_Take.l0 k l0 a1 0) = some (r1, r2) := h
 clear h
 have H' := Aside0.mk H
 clear H
 go_enter Try.func26, Try.ntmps26
 go_wp2
 go_loopg [6] k (fun kq v6 w' => ∃ (x6_1 : Int), v6 = .int .i64 x6_1 ∧ Aside0 (soukref11_Take.l0 kq l0 a1 x6_1 = some (r1, r2)) ∧ Aside0 (kq ≤ k) ∧ Aside0 (Below w.heap.size w w'))
 case atStart => exact ⟨(0), (by first | rfl | (simp; done) | (simp [*]; done)), H', ⟨Nat.le_refl _⟩, ⟨by repeat (first | (with_reducible first | exact HB.out | apply below_alloc | apply pw_below_drewN | apply below_drew1) | exact HB.out)⟩⟩
 case round =>
  clear H'
  try clear c2
  try clear p2
  obtain ⟨x6_1, rfl, HA, HK1, HB⟩ := hrel
  cases gk with
  | zero => exact absurd HA.out (by simp [soukref11_Take.l0])
  | succ k1 =>
   have H := HA.out
   clear HA
   simp only [soukref11_Take.l0] at H
   by_cases c3 : x6_1 < (l0.length : Int)
   ·rw [if_pos c3] at H
    have c3b0 : decide (x6_1 < (l0.length : Int)) = true := decide_eq_true c3
    clear c3
    by_cases c4 : 0 ≤ x6_1
    ·rw [if_pos c4] at H
     have c4b0 : decide (0 ≤ x6_1) = true := decide_eq_true c4
     clear c4
     by_cases c5 : (rd l0 x6_1) < 0
     ·rw [if_pos c5] at H
      have c5b0 : decide ((rd l0 x6_1) < 0) = true := decide_eq_true c5
      clear c5
      simp only [Option.some.injEq, Prod.mk.injEq] at H
      obtain ⟨rfl, rfl⟩ := H
      have p442 : 0 ≤ (x6_1 : Int) := of_decide_eq_true (by first | (with_reducible assumption) | assumption)
      have q442 : x6_1 < (l0.length : Int) := of_decide_eq_true (by first | (with_reducible assumption) | assumption)
      obtain ⟨ad442, e442, hx442_0⟩ := Kd.at_int HR0.out x6_1 p442 q442
      cases e442
      replace hx442_0 := (HB.out.cell (World.block_lt_of_cell? w _ hx442_0)).trans hx442_0
      replace p442 := eq_true p442
      replace q442 := eq_true q442
      go_wp2
      go_ret2
      exact ⟨_, by first | rfl | (simp [errW_none, errW_some] <;> rfl) | (simp [*, errW_none, errW_some] <;> rfl), by first | exact Kd.R_nil _ _ _ _ _ | exact Kd.N_nil _ _ _ _ _ | exact Kd.V_nil _ _ _ _ _ | exact Kd.Q_nil _ _ _ _ _ | exact Kd.S_nil _ _ _ _ _, by repeat (first | (with_reducible first | exact HB.out | apply below_alloc | apply pw_below_drewN | apply below_drew1) | exact HB.out)⟩
     ·rw [if_neg c5] at H
      have c5b0 : decide ((rd l0 x6_1) < 0) = false := decide_eq_false c5
      clear c5
      have H' := Aside0.mk H
      clear H
      have p442 : 0 ≤ (x6_1 : Int) := of_decide_eq_true (by first | (with_reducible assumption) | assumption)
      have q442 : x6_1 < (l0.length : Int) := of_decide_eq_true (by first | (with_reducible assumption) | assumption)
      obtain ⟨ad442, e442, hx442_0⟩ := Kd.at_int HR0.out x6_1 p442 q442
      cases e442
      replace hx442_0 := (HB.out.cell (World.block_lt_of_cell? w _ hx442_0)).trans hx442_0
      replace p442 := eq_true p442
      replace q442 := eq_true q442
      go_wp2
      go_roundg k1
      case measure => have := HK1.out; omega
      case rel => exact ⟨(wrap64 (x6_1 + 1)), (by first | rfl | (simp; done) | (simp [*]; done)), H', ⟨by have := HK1.out; omega⟩, ⟨by repeat (first | (with_reducible first | exact HB.out | apply below_alloc | apply pw_below_drewN | apply below_drew1) | exact HB.out)⟩⟩
    ·rw [if_neg c4] at H
     exact absurd H (by simp)
   ·rw [if_neg c3] at H
    have c3b0 : decide (x6_1 < (l0.length : Int)) = false := decide_eq_false c3
    clear c3
    by_cases c6 : a1 ≤ 0
    ·rw [if_pos c6] at H
     have c6b0 : decide (a1 ≤ 0) = true := decide_eq_true c6
     clear c6
     simp only [Option.some.injEq, Prod.mk.injEq] at H
     obtain ⟨rfl, rfl⟩ := H
     go_wp2
     go_ret2
     exact ⟨_, by first | rfl | (simp [errW_none, errW_some] <;> rfl) | (simp [*, errW_none, errW_some] <;> rfl), by first | exact Kd.R_nil _ _ _ _ _ | exact Kd.N_nil _ _ _ _ _ | exact Kd.V_nil _ _ _ _ _ | exact Kd.Q_nil _ _ _ _ _ | exact Kd.S_nil _ _ _ _ _, by repeat (first | (with_reducible first | exact HB.out | apply below_alloc | apply pw_below_drewN | apply below_drew1) | exact HB.out)⟩
    ·rw [if_neg c6] at H
     have c6b0 : decide (a1 ≤ 0) = false := decide_eq_false c6
     clear c6
     replace H := Option.bind_eq_some_iff.mp H
     obtain ⟨⟨t443, t444⟩, A70, H⟩ := H
     replace H : (if t444 = true then (if a1 > t443 then (some (([] : List Int), 10)) else ((soukref01_Split.f a1 l0).bind fun bt445 => (some (bt445.1, bt445.2)))) else (some (([] : List Int), 2))) = some (r1, r2) := H
     have A7 := Aside0.mk A70
     clear A70
     by_cases c8 : t444 = true
     ·subst c8
      have H1 : (if a1 > t443 then (some (([] : List Int), 10)) else ((soukref01_Split.f a1 l0).bind fun bt445 => (some (bt445.1, bt445.2)))) = some (r1, r2) := by rw [if_pos rfl] at H; exact H
      clear H
      have H := H1
      clear H1
      by_cases c9 : a1 > t443
      ·rw [if_pos c9] at H
       have c9b0 : decide (t443 < a1) = true := decide_eq_true c9
       clear c9
       simp only [Option.some.injEq, Prod.mk.injEq] at H
       obtain ⟨rfl, rfl⟩ := H
       go_wp2_with (first | ((with_reducible refine gate_callee (f := 14) rfl ?_); refine goesL_ (some 24) rfl rfl Try.func14 (by kernel_rfl) rfl #[.slice A0 l0.length c0] rfl (by (try simp only [List.map_toArray, List.map_cons, List.map_nil]); first | done | rfl | (simp only [List.length_drop, List.length_take]; rfl)) ?_; (with_reducible refine (soukref01_Sum.calls k1 _ _ l0 t443 true _ ?side1 ?side2 A7.out).mono ?_); (case side1 => repeat (first | exact (Kd.C_below HR0.out HB.out) | (with_reducible refine Kd.C_alloc ?_ _) | (with_reducible refine Kd.C_drewN ?_ _) | (with_reducible refine Kd.C_drew ?_))); (case side2 => exact HC0.out); rintro e w' ⟨rfl, ⟨nd, rfl⟩⟩; refine ⟨_, rfl, ?_⟩))
       go_ret2
       exact ⟨_, by first | rfl | (simp [errW_none, errW_some] <;> rfl) | (simp [*, errW_none, errW_some] <;> rfl), by first | exact Kd.R_nil _ _ _ _ _ | exact Kd.N_nil _ _ _ _ _ | exact Kd.V_nil _ _ _ _ _ | exact Kd.Q_nil _ _ _ _ _ | exact Kd.S_nil _ _ _ _ _, by repeat (first | (with_reducible first | exact HB.out | apply below_alloc | apply pw_below_drewN | apply below_drew1) | exact HB.out)⟩
      ·rw [if_neg c9] at H
       have c9b0 : decide (t443 < a1) = false := decide_eq_false c9
       clear c9
       replace H := Option.bind_eq_some_iff.mp H
       obtain ⟨⟨t445, t446⟩, A100, H⟩ := H
       replace H : (some (t445, t446)) = some (r1, r2) := H
       have A10 := Aside0.mk A100
       clear A100
       simp only [Option.some.injEq, Prod.mk.injEq] at H
       obtain ⟨rfl, rfl⟩ := H
       go_wp2_with (first | ((with_reducible refine gate_callee (f := 14) rfl ?_); refine goesL_ (some 24) rfl rfl Try.func14 (by kernel_rfl) rfl #[.slice A0 l0.length c0] rfl (by (try simp only [List.map_toArray, List.map_cons, List.map_nil]); first | done | rfl | (simp only [List.length_drop, List.length_take]; rfl)) ?_; (with_reducible refine (soukref01_Sum.calls k1 _ _ l0 t443 true _ ?side1 ?side2 A7.out).mono ?_); (case side1 => repeat (first | exact (Kd.C_below HR0.out HB.out) | (with_reducible refine Kd.C_alloc ?_ _) | (with_reducible refine Kd.C_drewN ?_ _) | (with_reducible refine Kd.C_drew ?_))); (case side2 => exact HC0.out); rintro e w' ⟨rfl, ⟨nd, rfl⟩⟩; refine ⟨_, rfl, ?_⟩) | ((with_reducible refine gate_callee (f := 21) rfl ?_); refine goesL_ (some 34) rfl rfl Try.func21 (by kernel_rfl) rfl #[.int .i64 a1, .slice A0 l0.length c0] rfl (by (try simp only [List.map_toArray, List.map_cons, List.map_nil]); first | done | rfl | (simp only [List.length_drop, List.length_take]; rfl)) ?_; (with_reducible refine (soukref01_Split.calls a1 _ _ l0 t445 t446 _ ?side1 ?side2 A10.out).mono ?_); (case side1 => repeat (first | exact (Kd.C_below HR0.out (by repeat (first | (with_reducible first | exact HB.out | apply below_alloc | apply pw_below_drewN | apply below_drew1) | exact HB.out))) | (with_reducible refine Kd.C_alloc ?_ _) | (with_reducible refine Kd.C_drewN ?_ _) | (with_reducible refine Kd.C_drew ?_))); (case side2 => exact HC0.out); rintro e w11 ⟨v447, rfl, ho0, hb⟩; refine ⟨_, rfl, ?_⟩; have n0_ := Aside0.mk (Kd.R_lower ho0 (below_size (by repeat (first | (with_reducible first | exact HB.out | apply below_alloc | apply pw_below_drewN | apply below_drew1) | exact HB.out)))); have n1_ := Aside0.mk (below_step (by repeat (first | (with_reducible first | exact HB.out | apply below_alloc | apply pw_below_drewN | apply below_drew1) | exact HB.out)) hb); clear HB; have HO448 := n0_; have HB := n1_; clear n0_ n1_; (try clear hb); (try clear hb2); (try clear hk); (try clear hi); (try clear ho0)))
       go_ret2
       exact ⟨_, by first | rfl | (simp [errW_none, errW_some] <;> rfl) | (simp [*, errW_none, errW_some] <;> rfl), by (with_reducible repeat (first | apply Kd.R_alloc | apply Kd.R_drewN | apply Kd.R_drew)); exact HO448.out, by repeat (first | (with_reducible first | exact HB.out | apply below_alloc | apply pw_below_drewN | apply below_drew1) | exact HB.out)⟩
     ·replace c8 := Bool.eq_false_iff.mpr c8
      subst c8
      have H1 : (some (([] : List Int), 2)) = some (r1, r2) := by rw [if_neg (show ¬ (false = true) by decide)] at H; exact H
      clear H
      have H := H1
      clear H1
      simp only [Option.some.injEq, Prod.mk.injEq] at H
      obtain ⟨rfl, rfl⟩ := H
      go_wp2_with (first | ((with_reducible refine gate_callee (f := 14) rfl ?_); refine goesL_ (some 24) rfl rfl Try.func14 (by kernel_rfl) rfl #[.slice A0 l0.length c0] rfl (by (try simp only [List.map_toArray, List.map_cons, List.map_nil]); first | done | rfl | (simp only [List.length_drop, List.length_take]; rfl)) ?_; (with_reducible refine (soukref01_Sum.calls k1 _ _ l0 t443 false _ ?side1 ?side2 A7.out).mono ?_); (case side1 => repeat (first | exact (Kd.C_below HR0.out HB.out) | (with_reducible refine Kd.C_alloc ?_ _) | (with_reducible refine Kd.C_drewN ?_ _) | (with_reducible refine Kd.C_drew ?_))); (case side2 => exact HC0.out); rintro e w' ⟨rfl, ⟨nd, rfl⟩⟩; refine ⟨_, rfl, ?_⟩))
      go_ret2
      exact ⟨_, by first | rfl | (simp [errW_none, errW_some] <;> rfl) | (simp [*, errW_none, errW_some] <;> rfl), by first | exact Kd.R_nil _ _ _ _ _ | exact Kd.N_nil _ _ _ _ _ | exact Kd.V_nil _ _ _ _ _ | exact Kd.Q_nil _ _ _ _ _ | exact Kd.S_nil _ _ _ _ _, by repeat (first | (with_reducible first | exact HB.out | apply below_alloc | apply pw_below_drewN | apply below_drew1) | exact HB.out)⟩
end Go.Proofs.Ytncnhhnbjmpomaa.Q
namespace Go.Proofs.Ytncnhhnbjmpomaa.Q
open Go.RowKit Go.Proofs.YtncnhhnbjmpomaaW.PrintWords Go.Proofs.YtncnhhnbjmpomaaW.PrintLast
set_option linter.unusedVariables false
set_option linter.unusedSimpArgs false
open Go.Proofs.Kq (Reads wpList_append_any)
open Go.Proofs.Ytncnhhnbjmpomaa
theorem reads_ints {k : IntKind} {w : World} {A : Option Addr} {xs : List Int} (h : Kd.C (Kd.int k) w A xs.length xs) : Reads w w.heap.size 1 A xs.length (encs (Value.int k) xs) := by
  refine ⟨by rw [encs_length]; omega, fun hn => ?_⟩
  obtain ⟨ad, e, hc⟩ := (Kd.reads_of_C (d := (0 : Int)) h).2.2 hn
  refine ⟨ad, e, ?_, fun j u hu => ?_⟩
  · have := World.block_lt_of_cell? w _ (hc 0 hn)
    rwa [Kq.block_of_add] at this
  · obtain ⟨hj, hju⟩ := List.getElem?_eq_some_iff.1 hu
    rw [encs_length] at hj
    rw [hc j hj, List.getD_eq_getElem?_getD, List.getElem?_eq_getElem hj]
    simp [encs] at hju
    simp [hju]
theorem encs_one (k : IntKind) (xs : List Int) : ∀ u ∈ encs (Value.int k) xs, u.oneCell' = true := by
  intro u hu; obtain ⟨z, _, rfl⟩ := List.mem_map.1 hu; rfl
def slices_Clone_int64_int64.f (l0 : List Int) : Option (List Int) := if l0.length ≤ 1000000 then some l0 else none
set_option maxRecDepth 100000 in
set_option maxHeartbeats 1000000 in
theorem slices_Clone_int64_int64.calls (A0 : Option Addr) (c0 : Nat) (l0 : List Int) (r : List Int) (w : World) (hr0 : Kd.C (Kd.int .i64) w A0 l0.length l0) (hc0 : l0.length ≤ c0) (h : slices_Clone_int64_int64.f l0 = some r) :
    Calls Try.prog 24 #[.slice A0 l0.length c0] w fun e w' => ∃ v0_ : Value, e = .returned (v0_) ∧ Kd.R (Kd.int .i64) 2 w' w.heap.size (fun _ => True) v0_ r ∧ Below w.heap.size w w' := by
  unfold slices_Clone_int64_int64.f at h
  split at h
  · rename_i hb
    cases h
    obtain ⟨i0, hi, hz0, hz1, hz2⟩ := info_parts info2
    cases A0 with
    | none =>
      have h0 : l0 = [] := by
        cases l0 with
        | nil => rfl
        | cons x xs => obtain ⟨ad, e, _⟩ := hr0.2.2 (by simp); cases e
      subst h0
      exact (Go.Proofs.Try.slices_Clone_nil _ _ w).mono fun e w' ⟨he, hw⟩ => ⟨_, he, Kd.R_nil _ _ _ _ _, hw ▸ Below.refl _ _⟩
    | some ad =>
      have he := fun w => Lib.run_eql_slice_nil (P := Try.prog) w 22 2 (some ad) l0.length c0 0 0 Try.underlying22
      have HR := reads_ints hr0
      clear hr0
      go_enter Try.func24, Try.ntmps24
      go_wp2_with (at_builtin; refine wpList_append_any _ rfl (.tmp 5) (.tmp 6) 22 rfl w.heap.size 2 i0 (.int .i64 0) 1 8 Try.underlying22 hi hz0 hz1 hz2 rfl (by decide) (.slice (some ⟨w.heap.size, 0, none⟩) 0 0) 0 [] rfl ?aO w.heap.size (some ad) l0.length c0 (encs (Value.int .i64) l0) rfl ?aR (encs_one _ l0) ?aM ?aB ?aS ?_; (case aO => exact ⟨rfl, .inr ⟨w.heap.size, 0, #[], rfl, Nat.le_refl _, by (show (w.heap.push _)[w.heap.size]? = _; simp), Nat.le_refl _, by decide, rfl, rfl⟩⟩); (case aR => exact HR.alloc (Nat.le_refl _) _); (case aM => simp only [maxLen]; omega); (case aB => omega); (case aS => simp); intro v1 w1 hown hg hat)
      go_ret
      exact ⟨_, rfl, Kd.R_of_own (by simpa using hown) (fun _ _ => trivial), (below_new (Below.refl _ _) _).grown hg (by simp) (fun k hk => by cases hk; exact Nat.le_refl _)⟩
  · cases h
end Go.Proofs.Ytncnhhnbjmpomaa.Q
namespace Go.Proofs.Ytncnhhnbjmpomaa.Q
open Go.RowKit Go.Proofs.YtncnhhnbjmpomaaW.PrintWords Go.Proofs.YtncnhhnbjmpomaaW.PrintLast Go.Proofs.YtncnhhnbjmpomaaW.PrintMore
attribute [local go_sem] max2_int min2_int max_two min_two max_three min_three max_four min_four   -- for this text's walks alone
set_option linter.unusedVariables false
set_option linter.unusedSimpArgs false
def claw_less.l0 : Nat → List Int → List Int → Int → Int → Option (List Int)
 | 0, _, _, _, _ => none
 | k + 1, x5, x10, x11, x12 => if x12 < x11 then (if 0 ≤ x12 then (if x12 < (x10.length : Int) then (if x12 < (x5.length : Int) then (claw_less.l0 k (x5.set (x12 : Int).toNat (wrap64 ((rd x5 x12) - (rd x10 x12)))) x10 x11 (wrap64 (x12 + 1))) else (none)) else (none)) else (none)) else (some x5)
def claw_less.f (k : Nat) (l0 : List Int) (l1 : List Int) : Option (List Int) := (slices_Clone_int64_int64.f l0).bind fun t466 => (claw_less.l0 k t466 l1 (l1.length : Int) 0)
set_option maxHeartbeats 8000000 in
set_option maxRecDepth 100000 in
theorem claw_less.calls (k : Nat) (A0 : Option Addr) (c0 : Nat) (l0 : List Int) (A1 : Option Addr) (c1 : Nat) (l1 : List Int) (r : List Int) (w : World) (hr0 : Kd.C (Kd.int .i64) w A0 l0.length l0) (hc0 : l0.length ≤ c0) (hr1 : Kd.C (Kd.int .i64) w A1 l1.length l1) (hc1 : l1.length ≤ c1) (h : claw_less.f k l0 l1 = some r) :
  Calls Try.prog 55 #[.slice A0 l0.length c0, .slice A1 l1.length c1] w fun e w' => ∃ v0_ : Value, e = .returned (v0_) ∧ Kd.R (Kd.int .i64) 2 w' w.heap.size (fun _ => True) v0_ r ∧ Below w.heap.size w w' := by
 have HR0 := Aside0.mk hr0
 have HC0 := Aside0.mk hc0
 clear hr0 hc0
 have HR1 := Aside0.mk hr1
 have HC1 := Aside0.mk hc1
 clear hr1 hc1
 have HB := Aside0.mk (Below.refl w.heap.size w)
 have H : ((slices_Clone_int64_int64.f l0).bind fun t466 => (claw_less.l0 k t466 l1 (l1.length : Int) 0)) = some r := h
 clear h
 replace H := Option.bind_eq_some_iff.mp H
 obtain ⟨t466, A30, H⟩ := H
 replace H : (claw_less.l0 k t466 l1 (l1.length : Int) 0) = some r := H
 have A3 := Aside0.mk A30
 clear A30
 have H' := Aside0.mk H
 clear H
 go_enter Try.func55, Try.ntmps55
 go_wp2_with (first | ((with_reducible refine gate_callee (f := 24) rfl ?_); refine goesL_ (some 9) rfl rfl Try.func24 (by kernel_rfl) rfl #[.slice A0 l0.length c0] rfl (by (try simp only [List.map_toArray, List.map_cons, List.map_nil]); first | done | rfl | (simp only [List.length_drop, List.length_take]; rfl)) ?_; (with_reducible refine (slices_Clone_int64_int64.calls _ _ l0 t466 _ ?side1 ?side2 A3.out).mono ?_); (case side1 => repeat (first | exact HR0.out | (with_reducible refine Kd.C_alloc ?_ _) | (with_reducible refine Kd.C_drewN ?_ _) | (with_reducible refine Kd.C_drew ?_))); (case side2 => exact HC0.out); rintro e w4 ⟨v467, rfl, ho0, hb⟩; refine ⟨_, rfl, ?_⟩; have n0_ := Aside0.mk (Kd.R_lower ho0 (below_size (by repeat (first | (with_reducible first | exact HB.out | apply below_alloc | apply pw_below_drewN | apply below_drew1) | exact HB.out)))); have n1_ := Aside0.mk (below_step (by repeat (first | (with_reducible first | exact HB.out | apply below_alloc | apply pw_below_drewN | apply below_drew1) | exact HB.out)) hb); clear HB; have HO468 := n0_; have HB := n1_; clear n0_ n1_; (try clear hb); (try clear hb2); (try clear hk); (try clear hi); (try clear ho0)))
 go_loopg [12] k (fun kq v12 w' => ∃ (x5_1 : List Int) (x12_1 : Int), v12 = .int .i64 x12_1 ∧ Aside0 (claw_less.l0 kq x5_1 l1 (l1.length : Int) x12_1 = some r) ∧ Aside0 (kq ≤ k) ∧ Aside0 (Kd.R (Kd.int .i64) 2 w' w.heap.size (fun _ => True) v467 x5_1) ∧ Aside0 (Below w.heap.size w w'))
 case atStart => exact ⟨(t466), (0), (by first | rfl | (simp; done) | (simp [*]; done)), H', ⟨Nat.le_refl _⟩, ⟨by (with_reducible repeat (first | apply Kd.R_alloc | apply Kd.R_drewN | apply Kd.R_drew)); exact HO468.out⟩, ⟨by repeat (first | (with_reducible first | exact HB.out | apply below_alloc | apply pw_below_drewN | apply below_drew1) | exact HB.out)⟩⟩
 case round =>
  clear H'
  try clear c1
  try clear c2
  try clear p2
  obtain ⟨x5_1, x12_1, rfl, HA, HK1, HO_5, HB⟩ := hrel
  cases gk with
  | zero => exact absurd HA.out (by simp [claw_less.l0])
  | succ k1 =>
   have H := HA.out
   clear HA
   simp only [claw_less.l0] at H
   by_cases c5 : x12_1 < (l1.length : Int)
   ·rw [if_pos c5] at H
    have c5b0 : decide (x12_1 < (l1.length : Int)) = true := decide_eq_true c5
    clear c5
    by_cases c6 : 0 ≤ x12_1
    ·rw [if_pos c6] at H
     have c6b0 : decide (0 ≤ x12_1) = true := decide_eq_true c6
     clear c6
     by_cases c7 : x12_1 < (l1.length : Int)
     ·rw [if_pos c7] at H
      have c7b0 : decide (x12_1 < (l1.length : Int)) = true := decide_eq_true c7
      clear c7
      by_cases c8 : x12_1 < (x5_1.length : Int)
      ·rw [if_pos c8] at H
       have c8b0 : decide (x12_1 < (x5_1.length : Int)) = true := decide_eq_true c8
       clear c8
       obtain ⟨y471, hy471⟩ : ∃ y_ : List Int, y_ = (x5_1.set (x12_1 : Int).toNat (wrap64 ((rd x5_1 x12_1) - (rd l1 x12_1)))) := ⟨_, rfl⟩
       replace H : (claw_less.l0 k1 y471 l1 (l1.length : Int) (wrap64 (x12_1 + 1))) = some r := by first | (rw [hy471]; with_reducible exact H) | (have H2_ := (Option.bind_some _ _).symm.trans H; rw [hy471]; with_reducible exact H2_) | (have H2_ := (Option.bind_some _ _).symm.trans H; with_reducible exact H2_) | with_reducible exact H | (rw [hy471]; exact H) | exact H
       have Ny471 := Aside0.mk hy471
       clear hy471
       have H' := Aside0.mk H
       clear H
       have p469 : 0 ≤ (x12_1 : Int) := of_decide_eq_true (by first | (with_reducible assumption) | assumption)
       have q469 : x12_1 < (l1.length : Int) := of_decide_eq_true (by first | (with_reducible assumption) | assumption)
       obtain ⟨ad469, e469, hx469_0⟩ := Kd.at_int HR1.out x12_1 p469 q469
       cases e469
       replace hx469_0 := (HB.out.cell (World.block_lt_of_cell? w _ hx469_0)).trans hx469_0
       replace p469 := eq_true p469
       replace q469 := eq_true q469
       obtain ⟨Ao10, co10, eo10⟩ := Kd.R_slice HO_5.out
       subst eo10
       have p470 : 0 ≤ (x12_1 : Int) := of_decide_eq_true (by first | (with_reducible assumption) | assumption)
       have q470 : x12_1 < (x5_1.length : Int) := of_decide_eq_true (by first | (with_reducible assumption) | assumption)
       obtain ⟨ad470, e470, hx470_0⟩ := Kd.at_int (Kd.R_reads' HO_5.out).2.2 x12_1 p470 q470
       cases e470
       replace p470 := eq_true p470
       replace q470 := eq_true q470
       have p9 : 0 ≤ (x12_1 : Int) := of_decide_eq_true (by first | (with_reducible assumption) | assumption)
       have q9 : (x12_1 : Int) < ((x5_1.length : Int) : Int) := of_decide_eq_true (by first | (with_reducible assumption) | assumption)
       obtain ⟨go9, co9, eo9, gb9, gl9, cl9, HG9⟩ := Kd.R_form HO_5.out (by omega)
       (first | cases eo9 | (injection eo9 with ea_ en_ ec_; (first | subst ea_ | (injection ea_ with ea_; subst ea_)); subst ec_; clear en_))
       have GB9 := Aside0.mk gb9
       have GG9 := Aside0.mk HG9
       clear gb9 gl9 HG9
       (first | simp only [add_plain] at hx470_0 | skip)
       obtain ⟨hx9_0, hf9_0⟩ := Kd.R_celln 0 HO_5.out (x12_1 : Int) p9 q9
       replace p9 := eq_true p9
       replace q9 := eq_true q9
       have HP11 := Kd.R_putg HO_5.out (x12_1 : Int) (wrap64 ((rd x5_1 x12_1) - (rd l1 x12_1)))
       go_wp2_with (first | ((with_reducible refine gate_store (t := 2) (p := 23) rfl ?_); refine store_event (t := 2) (p := 23) (v := ?vo_w12) (w1 := (wr.setCell ⟨go9, (x12_1 : Int).toNat, none⟩ (.int .i64 (wrap64 ((rd x5_1 x12_1) - (rd l1 x12_1)))))) ?hg ?ho ?hn ?hr ?_; (case ho => rfl); (case hg => rfl); (case hn => rfl); (case hr => first | (go_simp; done) | (go_simp; rfl)); intro w12 hw; have hg : wr.grownBy w12 (some go9) := (by rw [hw]; exact HP11.2); have hp_ : Kd.R (Kd.int .i64) 2 w12 w.heap.size (fun _ => True) (.slice (some ⟨go9, 0, none⟩) x5_1.length co10) y471 := (by rw [hw, Ny471.out]; exact HP11.1); clear HP11; have n0_ := Aside0.mk (hp_); have n1_ := Aside0.mk ((by rw [hw]; exact below_set (HB.out) GB9.out : Below w.heap.size w w12)); clear HO_5; clear HB; have HO_5 := n0_; have HB := n1_; clear n0_ n1_; clear hg hw hp_))
       go_roundg k1
       case measure => have := HK1.out; omega
       case rel => exact ⟨(y471), (wrap64 (x12_1 + 1)), (by first | rfl | (simp; done) | (simp [*]; done)), H', ⟨by have := HK1.out; omega⟩, ⟨by (with_reducible repeat (first | apply Kd.R_alloc | apply Kd.R_drewN | apply Kd.R_drew)); exact HO_5.out⟩, ⟨by repeat (first | (with_reducible first | exact HB.out | apply below_alloc | apply pw_below_drewN | apply below_drew1) | exact HB.out)⟩⟩
      ·rw [if_neg c8] at H
       exact absurd H (by simp)
     ·rw [if_neg c7] at H
      exact absurd H (by simp)
    ·rw [if_neg c6] at H
     exact absurd H (by simp)
   ·rw [if_neg c5] at H
    have c5b0 : decide (x12_1 < (l1.length : Int)) = false := decide_eq_false c5
    clear c5
    obtain rfl := Option.some.inj H
    go_wp2
    go_ret
    exact ⟨_, by first | rfl | (simp [errW_none, errW_some] <;> rfl) | (simp [*, errW_none, errW_some] <;> rfl), by (with_reducible repeat (first | apply Kd.R_alloc | apply Kd.R_drewN | apply Kd.R_drew)); exact HO_5.out, by repeat (first | (with_reducible first | exact HB.out | apply below_alloc | apply pw_below_drewN | apply below_drew1) | exact HB.out)⟩
end Go.Proofs.Ytncnhhnbjmpomaa.Q
namespace Go.Proofs.Ytncnhhnbjmpomaa.Q
open Go.RowKit Go.Proofs.YtncnhhnbjmpomaaW.PrintWords Go.Proofs.YtncnhhnbjmpomaaW.PrintLast Go.Proofs.YtncnhhnbjmpomaaW.PrintMore
attribute [local go_sem] max2_int min2_int max_two min_two max_three min_three max_four min_four   -- for this text's walks alone
set_option linter.unusedVariables false
set_option linter.unusedSimpArgs false
def souklaw13_lives.f (k : Nat)  : Option (Bool) := (claw_Take.f k (([10, 30] : List Int)) 4).bind fun bt434 => (if bt434.2 = 0 then ((slices_Equal_int64_int64.f k bt434.1 (([1, 3] : List Int))).bind fun t441 => (some t441)) else (some false))
set_option maxHeartbeats 8000000 in
set_option maxRecDepth 100000 in
theorem souklaw13_lives.calls (k : Nat)  (r : Bool) (w : World) (h : souklaw13_lives.f k  = some r) :
  Calls Try.prog 23 #[] w fun e w' => e = .returned (.bool r) ∧ Below w.heap.size w w' := by
 have HB := Aside0.mk (Below.refl w.heap.size w)
 have H : ((claw_Take.f k (([10, 30] : List Int)) 4).bind fun bt434 => (if bt434.2 = 0 then ((slices_Equal_int64_int64.f k bt434.1 (([1, 3] : List Int))).bind fun t441 => (some t441)) else (some false))) = some r := h
 clear h
 obtain ⟨y431, hy431⟩ : ∃ y_ : List Int, y_ = (([10, 30] : List Int)) := ⟨_, rfl⟩
 replace H : ((claw_Take.f k y431 4).bind fun bt434 => (if bt434.2 = 0 then ((slices_Equal_int64_int64.f k bt434.1 (([1, 3] : List Int))).bind fun t441 => (some t441)) else (some false))) = some r := by first | (rw [hy431]; with_reducible exact H) | (have H2_ := (Option.bind_some _ _).symm.trans H; rw [hy431]; with_reducible exact H2_) | (have H2_ := (Option.bind_some _ _).symm.trans H; with_reducible exact H2_) | with_reducible exact H | (rw [hy431]; exact H) | exact H
 have Ny431 := Aside0.mk hy431
 clear hy431
 replace H := Option.bind_eq_some_iff.mp H
 obtain ⟨⟨t434, t435⟩, A10, H⟩ := H
 replace H : (if t435 = 0 then ((slices_Equal_int64_int64.f k t434 (([1, 3] : List Int))).bind fun t441 => (some t441)) else (some false)) = some r := H
 have A1 := Aside0.mk A10
 clear A10
 by_cases c2 : t435 = 0
 ·rw [if_pos c2] at H
  have c2b0 : (t435 == 0) = true := beq_iff_eq.mpr c2
  have c2b1 : (t435 != 0) = false := bne_eq_false_iff_eq.mpr c2
  clear c2
  obtain ⟨y438, hy438⟩ : ∃ y_ : List Int, y_ = (([1, 3] : List Int)) := ⟨_, rfl⟩
  replace H : ((slices_Equal_int64_int64.f k t434 y438).bind fun t441 => (some t441)) = some r := by first | (rw [hy438]; with_reducible exact H) | (have H2_ := (Option.bind_some _ _).symm.trans H; rw [hy438]; with_reducible exact H2_) | (have H2_ := (Option.bind_some _ _).symm.trans H; with_reducible exact H2_) | with_reducible exact H | (rw [hy438]; exact H) | exact H
  have Ny438 := Aside0.mk hy438
  clear hy438
  replace H := Option.bind_eq_some_iff.mp H
  obtain ⟨t441, A30, H⟩ := H
  replace H : (some t441) = some r := H
  have A3 := Aside0.mk A30
  clear A30
  obtain rfl := Option.some.inj H
  go_enter Try.func23, Try.ntmps23
  go_wp2_with (first | ((with_reducible refine gate_dst (N := 4) rfl ?_); (try (refine gate_guard (by rfl) ?_; dsimp only)); refine Kd.R_lit (Kd.int .i64) _ 2 ?hg (N := 4) ?hd (xs := ([10, 30] : List Int)) (inner := [.int .i64 10, .int .i64 30]) (ok := fun _ => True) (okp := fun _ => True) ?hr ?hp (fun _ hk => hk) trivial (Below.refl _ _) (Nat.le_refl _) (by simp) ?_; (case hd => rfl); (case hg => rfl); (case hr => first | (go_simp; done) | (go_simp; rfl)); (case hp => exact (Reps.one (show Kd.M (Kd.int .i64) _ _ _ 10 [.int .i64 10] from rfl) (Reps.one (show Kd.M (Kd.int .i64) _ _ _ 30 [.int .i64 30] from rfl) (Reps.none _ _)))); intro v432 w4 ho5 hb hg_ hnew_; clear hg_ hnew_; (first | rw [← Ny431.out] at ho5 | (simp only [Int.reduceToNat] at ho5; rw [← Ny431.out] at ho5)); have n0_ := Aside0.mk (Kd.R_lower ho5 (below_size (by repeat (first | (with_reducible first | exact HB.out | apply below_alloc | apply pw_below_drewN | apply below_drew1) | exact HB.out)))); have n1_ := Aside0.mk (below_step (by repeat (first | (with_reducible first | exact HB.out | apply below_alloc | apply pw_below_drewN | apply below_drew1) | exact HB.out)) hb); clear HB; have HO433 := n0_; have HB := n1_; clear n0_ n1_; clear hb ho5; obtain ⟨Ao6, co6, eo6⟩ := Kd.R_slice HO433.out; subst eo6) | ((with_reducible refine gate_callee (f := 25) rfl ?_); refine goesL_ (some 5) rfl rfl Try.func25 (by kernel_rfl) rfl #[.slice Ao6 y431.length co6, .int .i64 4] rfl (by (try simp only [List.map_toArray, List.map_cons, List.map_nil]); first | done | rfl | (simp only [List.length_drop, List.length_take]; rfl)) ?_; (with_reducible refine (claw_Take.calls k _ _ y431 4 t434 t435 _ ?side1 ?side2 A1.out).mono ?_); (case side1 => repeat (first | exact (Kd.R_reads' HO433.out).2.2 | (with_reducible refine Kd.C_alloc ?_ _) | (with_reducible refine Kd.C_drewN ?_ _) | (with_reducible refine Kd.C_drew ?_))); (case side2 => exact (Kd.R_reads' HO433.out).2.1); rintro e w7 ⟨v436, rfl, ho0, hb⟩; refine ⟨_, rfl, ?_⟩; have n0_ := Aside0.mk (Kd.R_elder' (by (with_reducible repeat (first | apply Kd.R_alloc | apply Kd.R_drewN | apply Kd.R_drew)); exact HO433.out) (Kd.R_base ho0) hb); have n1_ := Aside0.mk (Kd.R_lower (Kd.R_new' ho0 (Kd.R_lt (by (with_reducible repeat (first | apply Kd.R_alloc | apply Kd.R_drewN | apply Kd.R_drew)); exact HO433.out))) (below_size (by repeat (first | (with_reducible first | exact HB.out | apply below_alloc | apply pw_below_drewN | apply below_drew1) | exact HB.out)))); have n2_ := Aside0.mk (below_step (by repeat (first | (with_reducible first | exact HB.out | apply below_alloc | apply pw_below_drewN | apply below_drew1) | exact HB.out)) hb); clear HO433; clear HB; have HO433 := n0_; have HO437 := n1_; have HB := n2_; clear n0_ n1_ n2_; (try clear hb); (try clear hb2); (try clear hk); (try clear hi); (try clear ho0)) | ((with_reducible refine gate_dst (N := 12) rfl ?_); (try (refine gate_guard (by rfl) ?_; dsimp only)); refine Kd.R_lit (Kd.int .i64) _ 2 ?hg (N := 12) ?hd (xs := ([1, 3] : List Int)) (inner := [.int .i64 1, .int .i64 3]) (ok := fun _ => True) (okp := fun _ => True) ?hr ?hp (fun _ hk => hk) trivial (Below.refl _ _) (Nat.le_refl _) (by simp) ?_; (case hd => rfl); (case hg => rfl); (case hr => first | (go_simp; done) | (go_simp; rfl)); (case hp => exact (Reps.one (show Kd.M (Kd.int .i64) _ _ _ 1 [.int .i64 1] from rfl) (Reps.one (show Kd.M (Kd.int .i64) _ _ _ 3 [.int .i64 3] from rfl) (Reps.none _ _)))); intro v439 w8 ho9 hb hg_ hnew_; clear hg_ hnew_; (first | rw [← Ny438.out] at ho9 | (simp only [Int.reduceToNat] at ho9; rw [← Ny438.out] at ho9)); have n0_ := Aside0.mk (Kd.R_elder' (by (with_reducible repeat (first | apply Kd.R_alloc | apply Kd.R_drewN | apply Kd.R_drew)); exact HO433.out) (Kd.R_base ho9) hb); have n1_ := Aside0.mk (Kd.R_elder' (by (with_reducible repeat (first | apply Kd.R_alloc | apply Kd.R_drewN | apply Kd.R_drew)); exact HO437.out) (Kd.R_base ho9) hb); have n2_ := Aside0.mk (Kd.R_lower (Kd.R_new' (Kd.R_new' ho9 (Kd.R_lt (by (with_reducible repeat (first | apply Kd.R_alloc | apply Kd.R_drewN | apply Kd.R_drew)); exact HO433.out))) (Kd.R_lt (by (with_reducible repeat (first | apply Kd.R_alloc | apply Kd.R_drewN | apply Kd.R_drew)); exact HO437.out))) (below_size (by repeat (first | (with_reducible first | exact HB.out | apply below_alloc | apply pw_below_drewN | apply below_drew1) | exact HB.out)))); have n3_ := Aside0.mk (below_step (by repeat (first | (with_reducible first | exact HB.out | apply below_alloc | apply pw_below_drewN | apply below_drew1) | exact HB.out)) hb); clear HO433; clear HO437; clear HB; have HO433 := n0_; have HO437 := n1_; have HO440 := n2_; have HB := n3_; clear n0_ n1_ n2_ n3_; clear hb ho9; obtain ⟨Ao10, co10, eo10⟩ := Kd.R_slice HO437.out; subst eo10; obtain ⟨Ao11, co11, eo11⟩ := Kd.R_slice HO440.out; subst eo11) | (go_at_call 22; (with_reducible refine (slices_Equal_int64_int64.calls k _ _ t434 _ _ y438 t441 _ ?side1 ?side2 ?side3 ?side4 A3.out).mono ?_); (case side1 => repeat (first | exact (Kd.R_reads' HO437.out).2.2 | (with_reducible refine Kd.C_alloc ?_ _) | (with_reducible refine Kd.C_drewN ?_ _) | (with_reducible refine Kd.C_drew ?_))); (case side2 => exact (Kd.R_reads' HO437.out).2.1); (case side3 => repeat (first | exact (Kd.R_reads' HO440.out).2.2 | (with_reducible refine Kd.C_alloc ?_ _) | (with_reducible refine Kd.C_drewN ?_ _) | (with_reducible refine Kd.C_drew ?_))); (case side4 => exact (Kd.R_reads' HO440.out).2.1); rintro e w' ⟨rfl, ⟨nd, rfl⟩⟩))
  go_ret
  exact ⟨by first | rfl | (simp [errW_none, errW_some] <;> rfl) | (simp [*, errW_none, errW_some] <;> rfl), by repeat (first | (with_reducible first | exact HB.out | apply below_alloc | apply pw_below_drewN | apply below_drew1) | exact HB.out)⟩
 ·rw [if_neg c2] at H
  have c2b0 : (t435 == 0) = false := beq_eq_false_iff_ne.mpr c2
  have c2b1 : (t435 != 0) = true := bne_iff_ne.mpr c2
  obtain rfl := Option.some.inj H
  go_enter Try.func23, Try.ntmps23
  go_wp2_with (first | ((with_reducible refine gate_dst (N := 4) rfl ?_); (try (refine gate_guard (by rfl) ?_; dsimp only)); refine Kd.R_lit (Kd.int .i64) _ 2 ?hg (N := 4) ?hd (xs := ([10, 30] : List Int)) (inner := [.int .i64 10, .int .i64 30]) (ok := fun _ => True) (okp := fun _ => True) ?hr ?hp (fun _ hk => hk) trivial (Below.refl _ _) (Nat.le_refl _) (by simp) ?_; (case hd => rfl); (case hg => rfl); (case hr => first | (go_simp; done) | (go_simp; rfl)); (case hp => exact (Reps.one (show Kd.M (Kd.int .i64) _ _ _ 10 [.int .i64 10] from rfl) (Reps.one (show Kd.M (Kd.int .i64) _ _ _ 30 [.int .i64 30] from rfl) (Reps.none _ _)))); intro v432 w12 ho13 hb hg_ hnew_; clear hg_ hnew_; (first | rw [← Ny431.out] at ho13 | (simp only [Int.reduceToNat] at ho13; rw [← Ny431.out] at ho13)); have n0_ := Aside0.mk (Kd.R_lower ho13 (below_size (by repeat (first | (with_reducible first | exact HB.out | apply below_alloc | apply pw_below_drewN | apply below_drew1) | exact HB.out)))); have n1_ := Aside0.mk (below_step (by repeat (first | (with_reducible first | exact HB.out | apply below_alloc | apply pw_below_drewN | apply below_drew1) | exact HB.out)) hb); clear HB; have HO433 := n0_; have HB := n1_; clear n0_ n1_; clear hb ho13; obtain ⟨Ao14, co14, eo14⟩ := Kd.R_slice HO433.out; subst eo14) | ((with_reducible refine gate_callee (f := 25) rfl ?_); refine goesL_ (some 5) rfl rfl Try.func25 (by kernel_rfl) rfl #[.slice Ao14 y431.length co14, .int .i64 4] rfl (by (try simp only [List.map_toArray, List.map_cons, List.map_nil]); first | done | rfl | (simp only [List.length_drop, List.length_take]; rfl)) ?_; (with_reducible refine (claw_Take.calls k _ _ y431 4 t434 t435 _ ?side1 ?side2 A1.out).mono ?_); (case side1 => repeat (first | exact (Kd.R_reads' HO433.out).2.2 | (with_reducible refine Kd.C_alloc ?_ _) | (with_reducible refine Kd.C_drewN ?_ _) | (with_reducible refine Kd.C_drew ?_))); (case side2 => exact (Kd.R_reads' HO433.out).2.1); rintro e w15 ⟨v436, rfl, ho0, hb⟩; refine ⟨_, rfl, ?_⟩; have n0_ := Aside0.mk (Kd.R_elder' (by (with_reducible repeat (first | apply Kd.R_alloc | apply Kd.R_drewN | apply Kd.R_drew)); exact HO433.out) (Kd.R_base ho0) hb); have n1_ := Aside0.mk (Kd.R_lower (Kd.R_new' ho0 (Kd.R_lt (by (with_reducible repeat (first | apply Kd.R_alloc | apply Kd.R_drewN | apply Kd.R_drew)); exact HO433.out))) (below_size (by repeat (first | (with_reducible first | exact HB.out | apply below_alloc | apply pw_below_drewN | apply below_drew1) | exact HB.out)))); have n2_ := Aside0.mk (below_step (by repeat (first | (with_reducible first | exact HB.out | apply below_alloc | apply pw_below_drewN | apply below_drew1) | exact HB.out)) hb); clear HO433; clear HB; have HO433 := n0_; have HO437 := n1_; have HB := n2_; clear n0_ n1_ n2_; (try clear hb); (try clear hb2); (try clear hk); (try clear hi); (try clear ho0)))
  go_ret
  exact ⟨by first | rfl | (simp [errW_none, errW_some] <;> rfl) | (simp [*, errW_none, errW_some] <;> rfl), by repeat (first | (with_reducible first | exact HB.out | apply below_alloc | apply pw_below_drewN | apply below_drew1) | exact HB.out)⟩
end Go.Proofs.Ytncnhhnbjmpomaa.Q
namespace Go.Proofs.Mm
open Go.RowKit Go.MapKept
set_option linter.unusedSimpArgs false
set_option linter.unusedVariables false
set_option linter.unusedSectionVars false
instance decBytes : DecidableEq ByteArray := fun a b => if h : a.data = b.data then isTrue (by cases a; cases b; simp_all) else isFalse (fun e => h (by rw [e]))
instance memBytes (a : ByteArray) : (l : List ByteArray) → Decidable (a ∈ l)
  | [] => isFalse (by simp)
  | b :: l => if h : a = b then isTrue (by simp [h]) else match memBytes a l with
    | isTrue h2 => isTrue (by simp [h2])
    | isFalse h2 => isFalse (by simp [h, h2])
section
variable {α : Type} [DecidableEq α] {P : Program} {kt : TypeId} {ek : α → Value}
def put (a : α) (v : Value) (c : Nat) : List (α × Value × Nat) → List (α × Value × Nat)
  | [] => [(a, v, c)]
  | x :: l => if x.1 = a then (a, v, x.2.2) :: l else x :: put a v c l
end
end Go.Proofs.Mm
namespace Go.Proofs.Ytncnhhnbjmpomaa.Q
open Go.RowKit Go.Proofs.YtncnhhnbjmpomaaW.PrintWords Go.Proofs.YtncnhhnbjmpomaaW.PrintLast Go.Proofs.YtncnhhnbjmpomaaW.PrintMore
set_option linter.unusedVariables false
set_option linter.unusedSimpArgs false
def upB (neg : Bool) (m : Int) (q r c : Nat) : Bool :=
  !decide (r = 0) && ((decide (m = 0) && neg) || (decide (m = 1) && !neg) || (decide (m = 2) && (decide (c < 2 * r) || (!decide (2 * r < c) && decide (q % 2 = 1)))))
def negB (a b : Int) : Bool := decide (a < 0) != decide (b < 0)
def mdV (a b : Int) (c : Nat) (m : Int) : Nat := a.natAbs * b.natAbs / c + bv (upB (negB a b) m (a.natAbs * b.natAbs / c) (a.natAbs * b.natAbs % c) c)
def mdF (a b : Int) (c : Nat) (m : Int) : Int × Bool := valF (mdV a b c m) (negB a b)
end Go.Proofs.Ytncnhhnbjmpomaa.Q
namespace Go.Proofs.Ytncnhhnbjmpomaa.Q
open Go.RowKit Go.Proofs.YtncnhhnbjmpomaaW.PrintWords Go.Proofs.Ytncnhhnbjmpomaa
set_option linter.unusedVariables false
set_option linter.unusedSimpArgs false
theorem rdI (l : List Int) (i : Nat) (h : i < l.length) : rd l (i : Int) = l[i] := by simp [rd, List.getD_eq_getElem?_getD, h]
def hv (hold n : Int) : Int := (mdF n hold 10000 0).1
end Go.Proofs.Ytncnhhnbjmpomaa.Q
namespace Go.Proofs.Ytncnhhnbjmpomaa.Q
open Go.RowKit Go.Proofs.YtncnhhnbjmpomaaW.PrintWords Go.Proofs.Ytncnhhnbjmpomaa Go.Sort
set_option linter.unusedVariables false
set_option linter.unusedSimpArgs false
theorem parts_facts (t : Int) (ws : List Int) (ht : 0 ≤ t) (hw : ∀ x ∈ ws, 0 ≤ x) (ha : 0 < ws.sum) : (∀ x ∈ partsF t ws, 0 ≤ x) ∧ (partsF t ws).sum = t ∧ (partsF t ws).length = ws.length := by
  have hlb := left_bd t ws ht hw ha
  have hm := mem_le_sum ws hw
  have hq0 : ∀ x ∈ quosF t ws.sum ws, 0 ≤ x := by
    intro x hx
    obtain ⟨y, hy, rfl⟩ := List.mem_map.1 hx
    exact (quo_bd ht (hw y hy) (hm y hy) ha).1
  have hp := srt_perm (restsF t ws.sum 0 ws).toArray
  have hl : (srt (restsF t ws.sum 0 ws).toArray).toList.length = ws.length := by rw [hp.1.length_eq]; simp [restsF_len]
  have hb := bump_facts ((srt (restsF t ws.sum 0 ws).toArray).toList.take (leftF t ws.sum ws).toNat) (quosF t ws.sum ws) hq0 (fun r hr => by
    have h := rests_idx t ws.sum ws 0 r (hp.1.mem_iff.1 (List.mem_of_mem_take hr))
    rw [quosF_len]; omega)
  refine ⟨hb.1, ?_, ?_⟩
  · show (bump _ _).sum = t
    rw [hb.2, List.length_take, hl, Nat.min_eq_left hlb.2]
    have : leftF t ws.sum ws = t - (quosF t ws.sum ws).sum := rfl
    omega
  · show (bump _ _).length = _
    rw [bump_len, quosF_len]
theorem sum_le_mul : ∀ (l : List Int) (m : Int), (∀ x ∈ l, x ≤ m) → l.sum ≤ l.length * m
  | [], m, _ => by simp
  | x :: l, m, h => by
    have h1 := sum_le_mul l m (fun y hy => h y (by simp [hy]))
    have h2 := h x (by simp)
    simp only [List.sum_cons, List.length_cons, Int.natCast_add, Int.natCast_one, Int.add_mul, Int.one_mul]
    omega
theorem inRb_of {x : Int} (h : inR x) : inRb x = true := (inRb_iff x).2 h
end Go.Proofs.Ytncnhhnbjmpomaa.Q
namespace Go.Proofs.Ytncnhhnbjmpomaa.Q
open Go.RowKit Go.Proofs.YtncnhhnbjmpomaaW.PrintWords Go.Proofs.Ytncnhhnbjmpomaa Go.Sort
set_option linter.unusedVariables false
set_option linter.unusedSimpArgs false
def takeF (xs : List Int) (a : Int) : List Int × Int :=
  if a ≤ 0 then ([], 1) else if xs.any (fun n => decide (n < 0)) = true then ([], 1) else if ¬ xs.sum ≤ 9223372036854775807 then ([], 2) else if xs.sum < a then ([], 10) else (partsF a xs, 0)
theorem take_ok (xs : List Int) (a : Int) (hx : ∀ x ∈ xs, inR x) (ha : inR a) (hl : xs.length < 20) : EvT (fun k => claw_Take.f k xs a) (takeF xs a) := by
  unfold takeF claw_Take.f
  by_cases h1 : a ≤ 0
  · rw [if_pos h1]
    exact EvT.congr (fun k => if_pos h1) (EvT.done fun k => by simp only [claw_Take.j0]; rw [if_pos trivial])
  rw [if_neg h1]
  refine EvT.congr (fun k => if_neg h1) ?_
  have hc : slices_ContainsFunc_int64_int64.f xs 54 = some (xs.any fun n => decide (n < 0)) := by
    unfold slices_ContainsFunc_int64_int64.f; rw [if_pos ⟨.inr (.inl rfl), by omega⟩]
  rw [hc]
  simp only [Option.bind_some]
  by_cases h2 : (xs.any fun n => decide (n < 0)) = true
  · rw [if_pos h2, h2]
    exact EvT.done fun k => by simp only [claw_Take.j0]; rw [if_pos trivial]
  rw [if_neg h2, eq_false_of_ne_true h2]
  have hnn := any_false xs (eq_false_of_ne_true h2)
  have had := addF_nn xs 0 (Int.le_refl _) hnn (by decide)
  rw [Int.zero_add] at had
  have hadd : EvT (fun k => money_Add.f k xs) (addF 0 xs) := EvT.of_add (add_ok xs hx (by omega))
  refine EvT.step (g := fun k => (money_Add.f k xs).bind fun bt425 => if bt425.2 = 0 then (if a > bt425.1 then some (([] : List Int), (10 : Int)) else (money_Split.f a xs).bind fun bt427 => some (bt427.1, bt427.2)) else some (([] : List Int), bt425.2)) (fun k => by simp only [claw_Take.j0]; rw [if_neg (by decide)]) ?_
  refine EvT.bind (F := fun k (bt425 : Int × Int) => if bt425.2 = 0 then (if a > bt425.1 then some (([] : List Int), (10 : Int)) else (money_Split.f a xs).bind fun bt427 => some (bt427.1, bt427.2)) else some (([] : List Int), bt425.2)) hadd ?_
  by_cases h3 : xs.sum ≤ 9223372036854775807
  · rw [if_pos h3] at had
    rw [if_neg (show ¬ ¬ xs.sum ≤ 9223372036854775807 from fun h => h h3), had]
    by_cases h4 : xs.sum < a
    · rw [if_pos h4]
      exact EvT.congr (fun k => by simp [h4]) (EvT.const _)
    · rw [if_neg h4]
      have hs : money_Split.f a xs = some (partsF a xs, 0) := by
        unfold money_Split.f
        rw [if_pos ⟨hl, List.all_eq_true.2 fun x h => inRb_of (hx x h), inRb_of ha⟩]
        unfold splitF
        rw [if_neg (by omega), if_neg h2, if_neg (by omega), if_neg (by omega)]
      exact EvT.congr (fun k => by simp [h4, hs]) (EvT.const _)
  · rw [if_neg h3] at had
    rw [if_pos h3, had]
    exact EvT.congr (fun k => if_neg (show ¬ (2 : Int) = 0 by decide)) (EvT.const _)
theorem rtake_from (xs : List Int) (a : Int) (hx : ∀ x ∈ xs, inR x) (ha : inR a) (hl : xs.length ≤ 1000) : ∀ (d i : Nat), xs.length - i = d → i ≤ xs.length → (∀ j (h : j < xs.length), j < i → 0 ≤ xs[j]) → EvT (fun k => soukref11_Take.l0 k xs a i) (takeF xs a)
  | 0, i, hd, hi, hn => by
    have hnn : ∀ x ∈ xs, 0 ≤ x := by
      intro x hx
      obtain ⟨j, hj, rfl⟩ := List.getElem_of_mem hx
      exact hn j hj (by omega)
    have hany : (xs.any fun n => decide (n < 0)) = false := by
      rw [List.any_eq_false]; intro x hx; have := hnn x hx; simp; omega
    unfold takeF
    rw [hany]
    by_cases h1 : a ≤ 0
    · rw [if_pos h1]
      exact EvT.done fun k => by simp only [soukref11_Take.l0]; rw [if_neg (by omega), if_pos h1]
    rw [if_neg h1, if_neg (by decide)]
    have had := addF_nn xs 0 (Int.le_refl _) hnn (by decide)
    rw [Int.zero_add] at had
    have hadd : EvT (fun k => soukref01_Sum.f k xs) (sumR (addF 0 xs)) := EvT.of_add (rsum_ok xs hx (by omega))
    refine EvT.step (g := fun k => (soukref01_Sum.f k xs).bind fun bt443 => if bt443.2 = true then (if a > bt443.1 then some (([] : List Int), (10 : Int)) else (soukref01_Split.f a xs).bind fun bt445 => some (bt445.1, bt445.2)) else some (([] : List Int), 2)) (fun k => by simp only [soukref11_Take.l0]; rw [if_neg (by omega), if_neg h1]) ?_
    refine EvT.bind (F := fun k (bt443 : Int × Bool) => if bt443.2 = true then (if a > bt443.1 then some (([] : List Int), (10 : Int)) else (soukref01_Split.f a xs).bind fun bt445 => some (bt445.1, bt445.2)) else some (([] : List Int), 2)) hadd ?_
    by_cases h3 : xs.sum ≤ 9223372036854775807
    · rw [if_pos h3] at had
      have e : sumR (addF 0 xs) = (xs.sum, true) := by rw [had]; rfl
      rw [if_neg (show ¬ ¬ xs.sum ≤ 9223372036854775807 from fun h => h h3), e]
      by_cases h4 : xs.sum < a
      · rw [if_pos h4]
        exact EvT.congr (fun k => by simp [h4]) (EvT.const _)
      · rw [if_neg h4]
        have hs : soukref01_Split.f a xs = some (partsF a xs, 0) := by
          unfold soukref01_Split.f
          rw [if_pos ⟨hl, List.all_eq_true.2 fun x h => inRb_of (hx x h), inRb_of ha⟩]
          unfold splitF
          rw [if_neg (by omega), hany, if_neg (by decide), if_neg (by omega), if_neg (by omega)]
        exact EvT.congr (fun k => by simp [h4, hs]) (EvT.const _)
    · rw [if_neg h3] at had
      have e : sumR (addF 0 xs) = (0, false) := by rw [had]; rfl
      rw [if_pos h3, e]
      exact EvT.congr (fun k => if_neg (by decide)) (EvT.const _)
  | d + 1, i, hd, hi, hn => by
    have hlt : i < xs.length := by omega
    by_cases h0 : xs[i] < 0
    · have hany : (xs.any fun n => decide (n < 0)) = true := List.any_eq_true.2 ⟨xs[i], List.getElem_mem _, by simpa using h0⟩
      have e : takeF xs a = ([], 1) := by
        unfold takeF
        rw [hany]
        split
        · rfl
        · rfl
      rw [e]
      exact EvT.done fun k => by simp only [soukref11_Take.l0]; rw [if_pos (by omega), if_pos (by omega), rdI _ _ hlt, if_pos h0]
    · refine EvT.step (fun k => ?_) (rtake_from xs a hx ha hl d (i + 1) (by omega) (by omega) (fun j hj hji => ?_))
      · simp only [soukref11_Take.l0]
        rw [if_pos (by omega), if_pos (by omega), rdI _ _ hlt, if_neg h0, nx i (by omega)]
      · by_cases e : j < i
        · exact hn j hj e
        · obtain rfl : j = i := by omega
          omega
theorem rtake_ok (xs : List Int) (a : Int) (hx : ∀ x ∈ xs, inR x) (ha : inR a) (hl : xs.length ≤ 1000) : EvT (fun k => soukref11_Take.f k xs a) (takeF xs a) :=
  rtake_from xs a hx ha hl xs.length 0 (by omega) (by omega) (fun _ _ h => absurd h (by omega))
theorem cless_from (ys l : List Int) (hl : l.length ≤ ys.length) (hlen : ys.length ≤ 1000) (hr : ∀ i (h : i < l.length), inR (ys[i]'(by omega) - l[i])) : ∀ (d i : Nat), l.length - i = d → i ≤ l.length →
    EvT (fun k => claw_less.l0 k ((List.zipWith (· - ·) ys l).take i ++ ys.drop i) l (l.length : Int) i) (List.zipWith (· - ·) ys l ++ ys.drop l.length)
  | 0, i, hd, hi => by
    obtain rfl : i = l.length := by omega
    rw [List.take_of_length_le (by simp; omega)]
    exact EvT.done fun k => by simp only [claw_less.l0]; rw [if_neg (by omega)]
  | d + 1, i, hd, hi => by
    have hlt : i < l.length := by omega
    have hly : i < ys.length := by omega
    have ih := cless_from ys l hl hlen hr d (i + 1) (by omega) (by omega)
    have hz : i < (List.zipWith (· - ·) ys l).length := by simp; omega
    have hzl : ((List.zipWith (· - ·) ys l).take i).length = i := by rw [List.length_take]; omega
    have e : ((List.zipWith (· - ·) ys l).take i ++ ys.drop i)[i]'(by simp; omega) = ys[i] := by
      rw [List.getElem_append_right (by omega)]
      simp [hzl]
    refine EvT.step (fun k => ?_) ih
    simp only [claw_less.l0]
    rw [if_pos (by omega), if_pos (by omega), if_pos (by omega), if_pos (by simp; omega), rdI _ _ hlt, rdI _ i (by simp; omega), e, nx i (by omega), w64i (hr i hlt).1 (hr i hlt).2, Int.toNat_natCast]
    congr 1
    rw [List.take_succ_eq_append_getElem hz, List.getElem_zipWith, List.set_append, if_neg (by omega), hzl, Nat.sub_self, List.append_assoc]
    rw [List.drop_eq_getElem_cons hly]; rfl
theorem cless_ok (ys l : List Int) (hl : l.length = ys.length) (hlen : ys.length ≤ 1000) (hr : ∀ i (h : i < l.length), inR (ys[i]'(by omega) - l[i])) : EvT (fun k => claw_less.f k ys l) (List.zipWith (· - ·) ys l) := by
  have h := cless_from ys l (by omega) hlen hr l.length 0 (by omega) (by omega)
  rw [hl, List.drop_length, List.append_nil, ← hl] at h
  unfold claw_less.f
  have hc : slices_Clone_int64_int64.f ys = some ys := by unfold slices_Clone_int64_int64.f; rw [if_pos (by omega)]
  rw [hc]
  exact h
theorem sum_pre (M : Int) (hM : 0 ≤ M) : ∀ (l : List S98), (∀ r ∈ l, 0 ≤ r.f1 ∧ r.f1 ≤ M) → 0 ≤ (l.map fun r => r.f1).sum ∧ (l.map fun r => r.f1).sum ≤ l.length * M
  | [], _ => by simp
  | r :: l, h => by
    have h1 := sum_pre M hM l (fun q hq => h q (by simp [hq]))
    have h2 := h r (by simp)
    simp only [List.map_cons, List.sum_cons, List.length_cons, Int.natCast_add, Int.natCast_one, Int.add_mul, Int.one_mul]
    omega
theorem sum_zero : ∀ (l : List S98), (∀ r ∈ l, r.f1 = 0) → (l.map fun r => r.f1).sum = 0
  | [], _ => rfl
  | r :: l, h => by
    simp only [List.map_cons, List.sum_cons, h r (by simp), sum_zero l (fun q hq => h q (by simp [hq]))]; rfl
theorem perm_sum : ∀ {l m : List Int}, l.Perm m → l.sum = m.sum := by
  intro l m h
  induction h with
  | nil => rfl
  | cons x _ ih => simp [ih]
  | swap x y l => simp; omega
  | trans _ _ h1 h2 => exact h1.trans h2
theorem rests_rng (t all : Int) (ha : 0 < all) : ∀ (l : List Int) (i : Nat), ∀ r ∈ restsF t all i l, 0 ≤ r.f1 ∧ r.f1 ≤ all - 1
  | [], _, _, h => by cases h
  | w :: l, i, r, h => by
    rcases List.mem_cons.1 h with rfl | h
    · have h1 := Int.emod_nonneg (t * w) (b := all) (by omega)
      have h2 := Int.emod_lt_of_pos (t * w) ha
      show 0 ≤ t * w % all ∧ t * w % all ≤ all - 1
      omega
    · exact rests_rng t all ha l (i + 1) r h
theorem picks_pos (t : Int) (ws : List Int) (ht : 0 ≤ t) (hw : ∀ x ∈ ws, 0 ≤ x) (ha : 0 < ws.sum) : ∀ r ∈ (ordF t ws).take (leftF t ws.sum ws).toNat, 0 < r.f1 := by
  have hlb := left_bd t ws ht hw ha
  have hp := ord_perm t ws
  have hs := ord_sorted t ws
  have hl := ord_len t ws
  have hrng : ∀ r ∈ ordF t ws, 0 ≤ r.f1 ∧ r.f1 ≤ ws.sum - 1 := fun r hr => rests_rng t ws.sum ha ws 0 r (hp.mem_iff.1 hr)
  have hsum : ((ordF t ws).map fun r => r.f1).sum = ws.sum * leftF t ws.sum ws := by
    rw [perm_sum (hp.map _)]
    have := quos_sum t ws.sum ha ws
    show _ = ws.sum * (t - (quosF t ws.sum ws).sum)
    rw [Int.mul_sub, Int.mul_comm ws.sum t]
    omega
  intro r hr
  obtain ⟨j, hj, rfl⟩ := List.getElem_of_mem hr
  have hj2 : j < (leftF t ws.sum ws).toNat := by rw [List.length_take] at hj; omega
  have hj3 : j < (ordF t ws).length := by rw [List.length_take] at hj; omega
  rw [List.getElem_take]
  apply Classical.byContradiction
  intro h0
  have hz : (ordF t ws)[j].f1 = 0 := by have := (hrng _ (List.getElem_mem hj3)).1; omega
  have hrest : ∀ q ∈ (ordF t ws).drop j, q.f1 = 0 := by
    intro q hq
    obtain ⟨m, hm, rfl⟩ := List.getElem_of_mem hq
    rw [List.getElem_drop]
    have hmr := hrng _ (List.getElem_mem (l := ordF t ws) (n := j + m) (by rw [List.length_drop] at hm; omega))
    by_cases e : m = 0
    · subst e; exact hz
    · have hpw := List.pairwise_iff_getElem.1 hs j (j + m) hj3 (by rw [List.length_drop] at hm; omega) (by omega)
      omega
  have e1 : ((ordF t ws).map fun r => r.f1).sum = (((ordF t ws).take j).map fun r => r.f1).sum := by
    have := List.take_append_drop j (ordF t ws)
    rw [← this, List.map_append, List.sum_append, sum_zero _ hrest]
    simp
  have e2 := (sum_pre (ws.sum - 1) (by omega) ((ordF t ws).take j) (fun q hq => hrng q (List.mem_of_mem_take hq))).2
  rw [List.length_take, Nat.min_eq_left (by omega)] at e2
  have e3 : ws.sum * ((j : Int) + 1) ≤ ws.sum * leftF t ws.sum ws := Int.mul_le_mul_of_nonneg_left (by omega) (by omega)
  have e4 : ws.sum * ((j : Int) + 1) = (j : Int) * (ws.sum - 1) + j + ws.sum := by rw [Int.mul_add, Int.mul_sub, Int.mul_comm ws.sum]; omega
  omega
theorem rests_nodup (t all : Int) : ∀ (l : List Int) (i : Nat), ((restsF t all i l).map fun r => r.f0).Nodup
  | [], _ => by simp [restsF]
  | w :: l, i => by
    simp only [restsF, List.map_cons, List.nodup_cons]
    refine ⟨fun h => ?_, rests_nodup t all l (i + 1)⟩
    obtain ⟨r, hr, he⟩ := List.mem_map.1 h
    have := rests_idx t all l (i + 1) r hr
    omega
theorem bump_get : ∀ (rs : List S98) (qs : List Int) (i : Nat), i < qs.length → (∀ r ∈ rs, 0 ≤ r.f0) → (rs.map fun r => r.f0).Nodup → (bump qs rs).getD i 0 = qs.getD i 0 + if (i : Int) ∈ rs.map (fun r => r.f0) then 1 else 0
  | [], qs, i, _, _, _ => by simp [bump]
  | r :: l, qs, i, hi, h0, hn => by
    simp only [List.map_cons, List.nodup_cons] at hn
    have hr := h0 r (by simp)
    have ih := bump_get l (qs.set r.f0.toNat (qs.getD r.f0.toNat 0 + 1)) i (by simpa using hi) (fun q hq => h0 q (by simp [hq])) hn.2
    show (bump _ l).getD i 0 = _
    rw [ih]
    by_cases e : r.f0 = (i : Int)
    · have e2 : r.f0.toNat = i := by omega
      have hnm : ¬ (i : Int) ∈ l.map (fun r => r.f0) := by rw [← e]; exact hn.1
      rw [if_neg hnm, e2, if_pos (by rw [List.map_cons]; exact List.mem_cons.2 (.inl e.symm))]
      simp [List.getD_eq_getElem?_getD, hi]
    · have e2 : ¬ r.f0.toNat = i := by omega
      have hq : (qs.set r.f0.toNat (qs.getD r.f0.toNat 0 + 1)).getD i 0 = qs.getD i 0 := by
        simp [List.getD_eq_getElem?_getD, List.getElem?_set, e2]
      rw [hq]
      congr 1
      by_cases hm : (i : Int) ∈ l.map (fun r => r.f0)
      · rw [if_pos hm, if_pos (by rw [List.map_cons]; exact List.mem_cons.2 (.inr hm))]
      · rw [if_neg hm, if_neg]
        rw [List.map_cons, List.mem_cons]
        rintro (h | h)
        · exact e h.symm
        · exact hm h
theorem parts_le (t : Int) (ws : List Int) (ht : 0 ≤ t) (hw : ∀ x ∈ ws, 0 ≤ x) (ha : 0 < ws.sum) (hta : t ≤ ws.sum) (i : Nat) (hi : i < ws.length) : (partsF t ws).getD i 0 ≤ ws[i] := by
  have hp := ord_perm t ws
  have hnd : ((ordF t ws).map fun r => r.f0).Nodup := (hp.map _).nodup_iff.2 (rests_nodup t ws.sum ws 0)
  have h0 : ∀ r ∈ ordF t ws, 0 ≤ r.f0 := fun r hr => by
    have := rests_idx t ws.sum ws 0 r (hp.mem_iff.1 hr); omega
  have hpos := picks_pos t ws ht hw ha
  have hwi := hw ws[i] (List.getElem_mem _)
  have hq : (quosF t ws.sum ws).getD i 0 = t * ws[i] / ws.sum := by
    rw [List.getD_eq_getElem?_getD, List.getElem?_eq_getElem (by rw [quosF_len]; exact hi)]; simp [quosF]
  have hle : t * ws[i] ≤ ws.sum * ws[i] := Int.mul_le_mul_of_nonneg_right hta hwi
  have hdm := Int.mul_ediv_add_emod (t * ws[i]) ws.sum
  have hm0 := Int.emod_nonneg (t * ws[i]) (b := ws.sum) (by omega)
  show (bump (quosF t ws.sum ws) ((ordF t ws).take (leftF t ws.sum ws).toNat)).getD i 0 ≤ _
  generalize hrs : (ordF t ws).take (leftF t ws.sum ws).toNat = rs at *
  have hsub : ∀ r ∈ rs, r ∈ ordF t ws := fun r hr => by rw [← hrs] at hr; exact List.mem_of_mem_take hr
  rw [bump_get rs _ i (by rw [quosF_len]; exact hi) (fun r hr => h0 r (hsub r hr)) (by rw [← hrs, List.map_take]; exact hnd.sublist (List.take_sublist _ _)), hq]
  generalize hQ : t * ws[i] / ws.sum = Q at *
  generalize hM : t * ws[i] % ws.sum = M at *
  split
  · rename_i hm
    obtain ⟨r, hr, he⟩ := List.mem_map.1 hm
    have hr1 := hpos r hr
    obtain ⟨m, hml, rfl⟩ := ord_mem t ws r (hsub r hr)
    have e : m = i := by have h2 : (m : Int) = i := he; omega
    subst e
    have hrv : rvF t ws m = M := by unfold rvF; rw [List.getD_eq_getElem?_getD, List.getElem?_eq_getElem hml, ← hM]; rfl
    have hr2 : 0 < rvF t ws m := hr1
    rw [hrv] at hr2
    apply Classical.byContradiction
    intro hc
    have : ws.sum * ws[m] ≤ ws.sum * Q := Int.mul_le_mul_of_nonneg_left (by omega) (by omega)
    omega
  · rw [Int.add_zero]
    apply Classical.byContradiction
    intro hc
    have : ws.sum * (ws[i] + 1) ≤ ws.sum * Q := Int.mul_le_mul_of_nonneg_left (by omega) (by omega)
    rw [Int.mul_add] at this
    omega
end Go.Proofs.Ytncnhhnbjmpomaa.Q
namespace Go.Proofs.Ytncnhhnbjmpomaa.Q
open Go.RowKit Go.Proofs.YtncnhhnbjmpomaaW.PrintWords Go.Proofs.Ytncnhhnbjmpomaa Go.Sort
set_option linter.unusedVariables false
set_option linter.unusedSimpArgs false
def afterF (ys : List Int) (n : Int) : List Int := List.zipWith (· - ·) ys (partsF n ys)
def Small (ys : List Int) : Prop := ys.length ≤ 10 ∧ ∀ y ∈ ys, 0 ≤ y ∧ y ≤ 65535
theorem Small.sum {ys : List Int} (h : Small ys) : 0 ≤ ys.sum ∧ ys.sum ≤ 655350 := by
  have h1 := sum_le_mul ys 65535 (fun x hx => (h.2 x hx).2)
  have h2 := sum_nn ys (fun x hx => (h.2 x hx).1)
  have := h.1
  refine ⟨h2, Int.le_trans h1 ?_⟩
  have : (ys.length : Int) * 65535 ≤ 10 * 65535 := Int.mul_le_mul_of_nonneg_right (by omega) (by decide)
  omega
theorem srt_claw : srt #[⟨0, 0⟩, ⟨1, 0⟩] = #[⟨0, 0⟩, ⟨1, 0⟩] := by
  show insOuter (ltOf cf98) 0 2 1 _ = _
  rw [insOuter_go _ _ _ _ _ (by decide)]
  have h1 : insInner (ltOf cf98) 0 1 #[(⟨0, 0⟩ : S98), ⟨1, 0⟩] = #[⟨0, 0⟩, ⟨1, 0⟩] := by rfl
  rw [h1, insOuter_stop _ _ _ _ _ (by decide)]
theorem parts_claw : partsF 4 [10, 30] = [1, 3] := by
  unfold partsF
  have h1 : (restsF 4 [10, 30].sum 0 [10, 30]).toArray = #[⟨0, 0⟩, ⟨1, 0⟩] := by rfl
  rw [h1, srt_claw]; rfl
theorem lives13_ok : EvT (fun k => souklaw13_lives.f k) true := by
  have h := take_ok [10, 30] 4 (by intro x hx; simp at hx; unfold inR; rcases hx with rfl | rfl <;> omega) ⟨by decide, by decide⟩ (by decide)
  have e : takeF [10, 30] 4 = ([1, 3], 0) := by
    unfold takeF
    rw [if_neg (by decide), if_neg (by decide), if_neg (by decide), if_neg (by decide), parts_claw]
  rw [e] at h
  have hq : EvT (fun k => slices_Equal_int64_int64.f k [1, 3] [1, 3]) true := by
    have := EvT.of_add (f := fun k => slices_Equal_int64_int64.f k [1, 3] [1, 3]) (eq_ok [1, 3] [1, 3] (by decide))
    simpa using this
  unfold souklaw13_lives.f
  refine EvT.bind (F := fun k (bt434 : List Int × Int) => if bt434.2 = 0 then (slices_Equal_int64_int64.f k bt434.1 ([1, 3] : List Int)).bind fun t441 => some t441 else some false) h ?_
  refine EvT.congr (fun k => if_pos rfl) (EvT.bind (F := fun k t => some t) hq (EvT.const _))
end Go.Proofs.Ytncnhhnbjmpomaa.Q
namespace Go.Proofs.Ytncnhhnbjmpomaa.Q
open Go.RowKit Go.Proofs.YtncnhhnbjmpomaaW.PrintWords Go.Proofs.Ytncnhhnbjmpomaa Go.Sort
set_option linter.unusedVariables false
set_option linter.unusedSimpArgs false
theorem takeF_cases (ys : List Int) (n : Int) : (∃ c, ¬ c = 0 ∧ takeF ys n = ([], c)) ∨ (takeF ys n = (partsF n ys, 0) ∧ 0 < n ∧ n ≤ ys.sum ∧ (∀ y ∈ ys, 0 ≤ y) ∧ ys.sum ≤ 9223372036854775807) := by
  unfold takeF
  by_cases h1 : n ≤ 0
  · exact .inl ⟨1, by decide, if_pos h1⟩
  rw [if_neg h1]
  by_cases h2 : (ys.any fun n => decide (n < 0)) = true
  · exact .inl ⟨1, by decide, if_pos h2⟩
  rw [if_neg h2]
  by_cases h3 : ys.sum ≤ 9223372036854775807
  · rw [if_neg (fun h => h h3)]
    by_cases h4 : ys.sum < n
    · exact .inl ⟨10, by decide, if_pos h4⟩
    · rw [if_neg h4]
      exact .inr ⟨rfl, by omega, by omega, any_false ys (eq_false_of_ne_true h2), h3⟩
  · exact .inl ⟨2, by decide, if_pos h3⟩
theorem after_more (ys : List Int) (n : Int) (h0 : 0 < n) (h1 : n ≤ ys.sum) (hw : ∀ y ∈ ys, 0 ≤ y) (hs : ys.sum ≤ 9223372036854775807) :
    (partsF n ys).length = ys.length ∧ (∀ x ∈ partsF n ys, 0 ≤ x ∧ x ≤ 9223372036854775807) ∧ (∀ i (h : i < (partsF n ys).length) (h' : i < ys.length), 0 ≤ ys[i] - (partsF n ys)[i] ∧ ys[i] - (partsF n ys)[i] ≤ ys[i]) ∧ (∀ y ∈ afterF ys n, inR y) ∧ List.zipWith (· + ·) (afterF ys n) (partsF n ys) = ys := by
  obtain ⟨p1, p2, p3⟩ := parts_facts n ys (by omega) hw (by omega)
  have hle := fun i hi => parts_le n ys (by omega) hw (by omega) h1 i hi
  have hms := mem_le_sum ys hw
  have hge : ∀ i (h : i < (partsF n ys).length) (h' : i < ys.length), 0 ≤ ys[i] - (partsF n ys)[i] ∧ ys[i] - (partsF n ys)[i] ≤ ys[i] := by
    intro i h h'
    have a := hle i h'
    rw [List.getD_eq_getElem?_getD, List.getElem?_eq_getElem h] at a
    have a : (partsF n ys)[i] ≤ ys[i] := a
    have b := p1 _ (List.getElem_mem h)
    omega
  refine ⟨p3, fun x hx => ?_, hge, fun y hy => ?_, ?_⟩
  · have := mem_le_sum (partsF n ys) p1 x hx
    have := p1 x hx
    omega
  · obtain ⟨i, hi, rfl⟩ := List.getElem_of_mem hy
    have hi2 : i < ys.length := by simp [afterF] at hi; omega
    simp only [afterF, List.getElem_zipWith]
    have := hge i (by omega) hi2
    have := hms _ (List.getElem_mem hi2)
    unfold inR; omega
  · apply List.ext_getElem
    · simp [afterF, p3]
    · intro i h h'
      simp [afterF]
theorem take_both (ys : List Int) (n : Int) (hy : ∀ y ∈ ys, inR y) (hn : inR n) (hl : ys.length ≤ 10) : ∃ k, claw_Take.f k ys n = some (takeF ys n) ∧ soukref11_Take.f k ys n = some (takeF ys n) := by
  obtain ⟨m1, g1⟩ := take_ok ys n hy hn (by omega)
  obtain ⟨m2, g2⟩ := rtake_ok ys n hy hn (by omega)
  exact ⟨m1 + m2, g1 (m1 + m2) (by omega), g2 (m1 + m2) (by omega)⟩
theorem less_both (ys : List Int) (n : Int) (h0 : 0 < n) (h1 : n ≤ ys.sum) (hw : ∀ y ∈ ys, 0 ≤ y) (hs : ys.sum ≤ 9223372036854775807) (hl : ys.length ≤ 10) : ∃ k, claw_less.f k ys (partsF n ys) = some (afterF ys n) := by
  obtain ⟨a1, a2, a3, a4, a5⟩ := after_more ys n h0 h1 hw hs
  have hms := mem_le_sum ys hw
  obtain ⟨m2, g2⟩ := cless_ok ys (partsF n ys) a1 (by omega) (fun i h => by have := a3 i h (by omega); have := hms _ (List.getElem_mem (l := ys) (n := i) (by omega)); unfold inR; omega)
  exact ⟨m2, g2 m2 (by omega)⟩
theorem eq_same (a : List Int) (hl : a.length ≤ 1000) : ∃ k, slices_Equal_int64_int64.f k a a = some true := by
  obtain ⟨m, hm⟩ := eq_ok a a (by omega)
  exact ⟨0 + m, by rw [hm 0]; simp⟩
end Go.Proofs.Ytncnhhnbjmpomaa.Q
namespace Go.Proofs.Ytncnhhnbjmpomaa
open Go.RowKit Go.Proofs.Ytncnhhnbjmpomaa.Q Go.Proofs.Kq
open Go.Proofs.YtncnhhnbjmpomaaW.PrintWords (pw_cell_below step_append_cells print_append_cells Kd Kd.C Kd.C_below Drawn0 encs encs_length encs_append)
set_option linter.unusedVariables false
set_option linter.unusedSimpArgs false
abbrev IR (w : World) (base : Nat) (v : Value) (xs : List Int) : Prop := Kd.R (Kd.int .i64) 2 w base (fun _ => True) v xs
theorem IR_nil (w : World) (base : Nat) : IR w base (.slice none 0 0) [] := Kd.R_of_own (show w.ownsRow base 2 1 (.slice none 0 0) 0 (encs (Value.int .i64) []) from ⟨rfl, .inl ⟨rfl, rfl⟩⟩) (fun _ _ => trivial)
def SaleAt (w : World) (base b : Nat) (xs : List Int) : Prop := ∃ v, Blk w b #[v] 48 ∧ IR w base v xs
def RefP (w : World) (base b : Nat) (xs l ys : List Int) (c : Int) (e : Ending) (w' : World) : Prop :=
  ∃ v, e = .returned (.tuple #[v, .int .i64 c]) ∧ IR w' w.heap.size v l ∧ (if c = 0 then SaleAt w' w.heap.size b ys else SaleAt w' base b xs) ∧ Fr (fun k => k = b) w w'
set_option maxHeartbeats 1000000 in
theorem refund_ok (k : Nat) (b : Nat) (base : Nat) (xs l ys : List Int) (a : Int) (w : World) (hS : SaleAt w base b xs)
    (ht : claw_Take.f k xs a = some (l, 0)) (hy : claw_less.f k xs l = some ys) :
    Calls Try.prog 27 #[.pointer (some ⟨b, 0, none⟩), .int .i64 a] w (RefP w base b xs l ys 0) := by
  obtain ⟨v, hB, hR⟩ := hS
  obtain ⟨A, c, rfl, hc, hC⟩ := Kd.R_reads hR
  have H1 := hidI (claw_Take.calls k A c xs a l 0)
  have H2 := hidI (claw_less.calls k A c xs)
  have c0 := hB.c 0
  have f0 := hB.f 0
  have HB := hidI hB
  have HC := hidI hC
  have HR := hidI hR
  have HT := hidI ht
  have HY := hidI hy
  clear hB hC hR ht hy
  go_enter Try.func27, Try.ntmps27
  go_wp2_with fail
  refine (H1.out w HC.out hc HT.out).mono ?_
  rintro e w1 ⟨v1, rfl, hR1, hb1⟩
  simp only []
  obtain ⟨A1, c1, rfl, hc1, hC1⟩ := Kd.R_reads hR1
  have HB1 := hidI (HB.out.be hb1)
  have d0 := HB1.out.c 0
  have g0 := HB1.out.f 0
  have HR1 := hidI hR1
  have HC1 := hidI hC1
  have Hb1 := hidI hb1
  have H3 := hidI (H2.out A1 c1 l ys w1 (Kd.C_below HC.out hb1) hc hC1 hc1 HY.out)
  have Hc1 := hidI hc1
  clear c0 f0 hR1 hC1 hb1 H1 H2 HT HC hc1
  go_wp2_with fail
  refine H3.out.mono ?_
  rintro e w2 ⟨v2, rfl, hR2, hb2⟩
  simp only []
  have HB2 := hidI (HB1.out.be hb2)
  have e0 := HB2.out.c 0
  have k0 := HB2.out.f 0
  obtain ⟨A2, c2, rfl⟩ := Kd.R_slice hR2
  have hfin : Hid (RefP w base b xs l ys 0 (.returned (.tuple #[.slice A1 l.length c1, .int .i64 0])) (w2.setCell ⟨b, 0, none⟩ (.slice A2 ys.length c2))) := by
    have hlt := HB.out.lt
    have hl1 := HB1.out.lt
    refine ⟨_, rfl, ?_, ?_, ?_⟩
    · exact Kd.R_set (Kd.R_below HR1.out hb2) HB2.out (by decide) 0 _
    · rw [if_pos rfl]
      refine ⟨.slice A2 ys.length c2, HB2.out.st 0 _, ?_⟩
      exact Kd.R_set (Kd.R_lower hR2 Hb1.out.size) HB2.out (by decide) 0 _
    · exact ((Fr.of_below (S := fun k => k = b) Hb1.out).below hb2).setCell (p := ⟨b, 0, none⟩) (fun _ => rfl) _
  clear d0 g0 hR2 hb2 H3 HR1 HB2 HB1 Hb1
  go_wp2
  go_ret2
  exact hfin.out
theorem refund_nil (a : Int) (w : World) : Calls Try.prog 27 #[.pointer none, .int .i64 a] w fun e w' => e = .returned (.tuple #[.slice none 0 0, .int .i64 1]) ∧ w = w' := by
  go_enter Try.func27, Try.ntmps27
  go_wp2
  go_ret2
  exact ⟨rfl, rfl⟩
end Go.Proofs.Ytncnhhnbjmpomaa
namespace Go.Proofs.Ytncnhhnbjmpomaa
open Go.RowKit Go.Proofs.Ytncnhhnbjmpomaa.Q Go.Proofs.Kq
open Go.Proofs.YtncnhhnbjmpomaaW.PrintWords (pw_cell_below step_append_cells print_append_cells Kd Kd.C Kd.C_below Drawn0 encs encs_length encs_append)
set_option linter.unusedVariables false
set_option linter.unusedSimpArgs false
theorem C_two (w : World) (x y : Int) : Kd.C (Kd.int .i64) (w.alloc (.cells #[.int .i64 x, .int .i64 y] 2)) (some ⟨w.heap.size, 0, none⟩) 2 [x, y] := by
  have h : IR (w.alloc (.cells #[.int .i64 x, .int .i64 y] 2)) w.heap.size (.slice (some ⟨w.heap.size, 0, none⟩) 2 2) [x, y] :=
    Kd.R_of_own (show World.ownsRow _ _ _ _ _ 2 (encs (Value.int .i64) [x, y]) from ⟨rfl, .inr ⟨w.heap.size, 2, #[.int .i64 x, .int .i64 y], rfl, Nat.le_refl _, by show (w.heap.push _)[w.heap.size]? = _; simp, by decide, by decide, rfl, rfl⟩⟩) (fun _ _ => trivial)
  obtain ⟨A, c, e, h1, h2⟩ := Kd.R_reads h
  injection e with e1 e2 e3
  subst e1
  exact h2
def UndoP (w : World) (base b : Nat) (xs : List Int) (c : Int) (e : Ending) (w' : World) : Prop :=
  e = .returned (.int .i64 c) ∧ SaleAt w' base b xs ∧ Fr (fun k => k = b) w w'
theorem undo_nil (A1 : Option Addr) (n c1 : Nat) (w : World) : Calls Try.prog 30 #[.pointer none, .slice A1 n c1] w fun e w' => e = .returned (.int .i64 1) ∧ w = w' := by
  go_enter Try.func30, Try.ntmps30
  go_wp2
  go_ret
  exact ⟨rfl, rfl⟩
set_option maxHeartbeats 1000000 in
theorem undo_len (b : Nat) (base : Nat) (xs l : List Int) (A1 : Option Addr) (c1 : Nat) (w : World) (hS : SaleAt w base b xs) (hn : ¬ l.length = xs.length) :
    Calls Try.prog 30 #[.pointer (some ⟨b, 0, none⟩), .slice A1 l.length c1] w (UndoP w base b xs 1) := by
  obtain ⟨v, hB, hR⟩ := hS
  obtain ⟨A, c, rfl, hc, hC⟩ := Kd.R_reads hR
  have hfin : Hid (UndoP w base b xs 1 (.returned (.int .i64 1)) w) := ⟨rfl, ⟨_, hB, hR⟩, Fr.refl _ _⟩
  have c0 := hB.c 0
  have t1 : (l.length != xs.length) = true := bne_iff_ne.2 hn
  have t2 : ((l.length : Int) != (xs.length : Int)) = true := bne_iff_ne.2 (by omega)
  clear hC hR hB
  go_enter Try.func30, Try.ntmps30
  go_wp2
  go_ret
  exact hfin.out
set_option maxHeartbeats 4000000 in
theorem undo_ok (b : Nat) (base : Nat) (xs l : List Int) (A1 : Option Addr) (c1 : Nat) (w : World) (hS : SaleAt w base b xs) (hn : l.length = xs.length) (hr1 : Kd.C (Kd.int .i64) w A1 l.length l) (hc1 : l.length ≤ c1)
    (h0 : ∀ x ∈ l, 0 ≤ x ∧ x ≤ 9223372036854775807) (h1 : ∀ i (h : i < xs.length), inR xs[i] ∧ inR (xs[i] + l[i]'(by omega))) (hlen : l.length ≤ 1000) :
    Calls Try.prog 30 #[.pointer (some ⟨b, 0, none⟩), .slice A1 l.length c1] w (UndoP w w.heap.size b (List.zipWith (· + ·) xs l) 0) := by
  obtain ⟨v, hB, hR⟩ := hS
  obtain ⟨A, c, rfl, hc, hC⟩ := Kd.R_reads hR
  have hany : l.any (fun n => decide (n < 0)) = false := by
    rw [List.any_eq_false]; intro x hx; have := h0 x hx; simp; omega
  have H2 := hidI (fun w hr => slices_ContainsFunc_int64_int64.calls A1 c1 l 57 false w hr hc1 (by unfold slices_ContainsFunc_int64_int64.f; rw [if_pos ⟨.inr (.inr rfl), by omega⟩, hany]))
  have c0 := hB.c 0
  have t1 : (l.length != xs.length) = false := bne_eq_false_iff_eq.2 hn
  have t2 : ((l.length : Int) != (xs.length : Int)) = false := bne_eq_false_iff_eq.2 (by omega)
  have HR1 := hidI hr1
  have HC := hidI hC
  have HB := hidI hB
  have HBS : Hid (∀ i (h : i < xs.length) (h' : i < l.length), inR xs[i] ∧ inR (xs[i] + l[i])) := fun i h _ => h1 i h
  have HN := hidI hn
  have H0 := hidI h0
  have hl2 : xs.length ≤ 1000 := by omega
  clear hC hR hB hr1 hany h1 hn h0
  go_enter Try.func30, Try.ntmps30
  go_wp2_with fail
  refine (H2.out w HR1.out).mono ?_
  rintro e w' ⟨rfl, ⟨n, rfl⟩⟩
  simp only []
  go_wp2
  go_loopw [5, 28] (fun v5 i wr => ∃ j : Nat, j ≤ l.length ∧ i = .int .i64 j ∧ Hid (Own li 1 2 wr w.heap.size v5 (List.zipWith (· + ·) (xs.take j) (l.take j)) ∧ Below w.heap.size w wr)) (fun _ i _ => l.length - (intOf i).toNat)
  case atStart => exact ⟨0, Nat.zero_le _, rfl, ⟨Own.nil _ _ _ _ _, below_drN w _⟩⟩
  case round =>
    obtain ⟨j, hj, rfl, HI⟩ := hrel
    by_cases hlt : j < l.length
    · obtain ⟨b1, off1, hA1, hc1'⟩ := C_ints HR1.out (by omega)
      subst hA1
      have hlx : j < xs.length := by have := HN.out; omega
      obtain ⟨b2, off2, hA2, hc2'⟩ := C_ints HC.out (by omega)
      subst hA2
      have q1 := pw_cell_below HI.out.2 (hc1' j hlt)
      have q2 := pw_cell_below HI.out.2 (hc2' j hlx)
      have d0 := ((HB.out.be HI.out.2).c 0)
      have hb := HBS.out j hlx hlt
      obtain ⟨y, hy⟩ : ∃ y, y = l[j] := ⟨_, rfl⟩
      obtain ⟨x, hx⟩ : ∃ x, x = xs[j] := ⟨_, rfl⟩
      rw [← hy] at q1 hb
      rw [← hx] at q2 hb
      unfold inR at hb
      have HXY := hidI (And.intro hx hy)
      clear hc1' hc2' c0 hx hy
      have hy0 : 0 ≤ y ∧ y ≤ 9223372036854775807 := by rw [HXY.out.2]; exact H0.out _ (List.getElem_mem hlt)
      obtain ⟨m, hm⟩ := add_ok [x, y] (by intro z hz; simp at hz; unfold inR; rcases hz with rfl | rfl <;> omega) (by simp)
      have ha : addF 0 [x, y] = (x + y, 0) := by
        unfold addF addF addF
        rw [if_pos (by omega), if_pos (by omega), Int.zero_add]
      have H3 := hidI (fun w1 hr => money_Add.calls (0 + m) (some ⟨wr.heap.size, 0, none⟩) 2 [x, y] (x + y) 0 w1 hr (Nat.le_refl _) (by rw [hm 0, ha]))
      clear hm ha
      go_wp2_with fail
      refine (H3.out _ (C_two wr x y)).mono ?_
      rintro e w1 ⟨rfl, ⟨n3, rfl⟩⟩
      simp only []
      clear H3
      have hO := (HI.out.1.alloc (.cells #[.int .i64 x, .int .i64 y] 2)).drewN n3
      have hB1 := below_drewN (below_new HI.out.2 (.cells #[.int .i64 x, .int .i64 y] 2)) n3
      have hst : Hid (List.zipWith (· + ·) (xs.take (j + 1)) (l.take (j + 1)) = List.zipWith (· + ·) (xs.take j) (l.take j) ++ [x + y]) := by
        show _ = _
        rw [List.take_succ_eq_append_getElem hlt, List.take_succ_eq_append_getElem hlx, List.zipWith_append (by simp; omega), ← HXY.out.1, ← HXY.out.2]; rfl
      have hzl : (List.zipWith (· + ·) (xs.take j) (l.take j)).length ≤ 1000 := by simp; omega
      generalize List.zipWith (· + ·) (xs.take j) (l.take j) = z at *
      have HO := hidI hO
      have HB1 := hidI hB1
      have HSZ := hB1.size
      clear hO hB1 HI q1 q2
      obtain ⟨W, hW⟩ : ∃ W, W = (wr.alloc (.cells #[.int .i64 x, .int .i64 y] 2)).drewN n3 := ⟨_, rfl⟩
      rw [← hW] at HO HB1 HSZ ⊢
      clear hW
      go_wp2_with (at_builtin; refine print_append_cells (w0 := w) (W := W) w.heap.size rfl (.tmp 49) (.tmp 51) 22 2 (.int .i64 0) 1 8 rfl Try.underlying22 info2 rfl (by decide) (by decide) u5 z.length (z.flatMap li) [.int .i64 (x + y)] (by rfl) (by rfl) rfl (by simp [Value.oneCell']) HO.out HB1.out HB1.out.size (by omega) ?_; intro v5 w5 ho5 hb5 hg5 hat5)
      have hfin : Hid (Own li 1 2 w5 w.heap.size v5 (List.zipWith (· + ·) (xs.take (j + 1)) (l.take (j + 1))) ∧ Below w.heap.size w w5) := by
        show _ ∧ _
        rw [hst.out]
        exact ⟨Own.snoc (l := li) (p := x + y) ho5, hb5⟩
      clear ho5 hb5 hg5 hat5 HO HB1
      go_roundw
      case rel => exact ⟨j + 1, by omega, by go_num, hfin⟩
      case measure => simp [intOf]; omega
    · obtain rfl : j = l.length := by omega
      have hO := HI.out.1
      have hBB := HI.out.2
      rw [List.take_length, HN.out, List.take_length] at hO
      obtain ⟨z, hz⟩ : ∃ z, z = List.zipWith (· + ·) xs l := ⟨_, rfl⟩
      rw [← hz] at hO
      have hB2 := hidI (HB.out.be hBB)
      have d0 := hB2.out.c 0
      have g0 := hB2.out.f 0
      obtain ⟨A5, c5, rfl, hc5⟩ := hO.slice_
      have hfin : Hid (UndoP w w.heap.size b (List.zipWith (· + ·) xs l) 0 (.returned (.int .i64 0)) (wr.setCell ⟨b, 0, none⟩ (.slice A5 z.length c5))) := by
        show UndoP _ _ _ _ _ _ _
        rw [← hz]
        refine ⟨rfl, ⟨_, hB2.out.st 0 _, ?_⟩, ?_⟩
        · unfold Own at hO
          rw [flat_li] at hO
          exact Kd.R_set (Kd.R_of_own hO (fun _ _ => trivial)) hB2.out (by decide) 0 _
        · exact (Fr.of_below (S := fun k => k = b) hBB).setCell (p := ⟨b, 0, none⟩) (fun _ => rfl) _
      clear hO hBB HI c0 hz
      go_wp2
      go_ret
      exact hfin.out
end Go.Proofs.Ytncnhhnbjmpomaa
namespace Go.Proofs.Ytncnhhnbjmpomaa
open Go.RowKit Go.Proofs.Ytncnhhnbjmpomaa.Q Go.Proofs.Kq
open Go.Proofs.YtncnhhnbjmpomaaW.PrintWords (pw_cell_below step_append_cells print_append_cells Kd Kd.C Kd.C_below Drawn0 encs encs_length encs_append)
open Go.Proofs.YtncnhhnbjmpomaaW.PrintMore
attribute [local go_sem] max2_int min2_int max_two min_two
set_option linter.unusedVariables false
set_option linter.unusedSimpArgs false
theorem SaleAt.lower {w : World} {base base' b : Nat} {xs : List Int} (h : SaleAt w base b xs) (hb : base' ≤ base) : SaleAt w base' b xs := by
  obtain ⟨v, h1, h2⟩ := h
  exact ⟨v, h1, Kd.R_lower h2 hb⟩
theorem SaleAt.below {w w1 : World} {base b : Nat} {xs : List Int} (h : SaleAt w base b xs) (hb : Below w.heap.size w w1) : SaleAt w1 base b xs := by
  obtain ⟨v, h1, h2⟩ := h
  exact ⟨v, h1.be hb, Kd.R_below h2 hb⟩
theorem lives23 (w : World) : Calls Try.prog 23 #[] w fun e w' => e = .returned (.bool true) ∧ Below w.heap.size w w' := by
  obtain ⟨k, hk⟩ := EvT.one lives13_ok
  exact souklaw13_lives.calls k true w hk
end Go.Proofs.Ytncnhhnbjmpomaa
namespace Go.Proofs.Ytncnhhnbjmpomaa
open Go.RowKit Go.Proofs.Ytncnhhnbjmpomaa.Q Go.Proofs.Kq
open Go.Proofs.YtncnhhnbjmpomaaW.PrintWords (pw_cell_below step_append_cells print_append_cells Kd Kd.C Kd.C_below Drawn0 encs encs_length encs_append)
set_option linter.unusedVariables false
set_option linter.unusedSimpArgs false
theorem C_bools {w : World} {A : Option Addr} {xs : List Bool} (h : Kd.C Kd.bool w A xs.length xs) (hn : 0 < xs.length) :
    ∃ b off, A = some ⟨b, off, none⟩ ∧ ∀ (k : Nat) (h : k < xs.length), w.cell? ⟨b, off + k, none⟩ = some (.bool xs[k]) := by
  obtain ⟨ad, rfl, hc⟩ := h.2.2 hn
  have hsp : ad.spot = none := by
    obtain ⟨c, hcl, hcK, hcc⟩ := hc 0 xs[0] (List.getElem?_eq_getElem hn)
    obtain rfl : c = [.bool xs[0]] := hcK
    have := hcc 0 _ rfl
    simpa [Addr.add] using Rk.spot_none this
  refine ⟨ad.block, ad.off, by rw [← Kp.addr_eta hsp], fun k hk => ?_⟩
  obtain ⟨c, hcl, hcK, hcc⟩ := hc k xs[k] (List.getElem?_eq_getElem hk)
  obtain rfl : c = [.bool xs[k]] := hcK
  have := hcc 0 _ rfl
  rw [Kp.addr_eta hsp, Kp.add_plain', show k * Kd.bool.sz + 0 = k from by show k * 1 + 0 = k; omega] at this
  exact this
abbrev IRn (w : World) (base g : Nat) (v : Value) (xs : List Int) : Prop := Kd.R (Kd.int .i64) 2 w base (fun k => k ≠ g) v xs
theorem IR.away {w : World} {base g : Nat} {v : Value} {xs : List Int} (h : IR w base v xs) (hg : g < base) : IRn w base g v xs := Kd.R_mono (Kd.R_bound h) (fun k hk => by have := hk.2.1; omega)
theorem IRn.weak {w : World} {base g : Nat} {v : Value} {xs : List Int} (h : IRn w base g v xs) : IR w base v xs := Kd.R_mono h (fun _ _ => trivial)
theorem IRn.fr {w w1 : World} {base g : Nat} {v : Value} {xs : List Int} (h : IRn w base g v xs) (hf : Fr (fun k => k = g) w w1) : IRn w1 base g v xs := Kd.R_step h (fun k ok hk => hf.block k hk ok)
theorem refund_nc (k : Nat) (b : Nat) (base : Nat) (xs : List Int) (a ce : Int) (hce : ¬ ce = 0) (w : World) (hS : SaleAt w base b xs)
    (ht : claw_Take.f k xs a = some ([], ce)) :
    Calls Try.prog 27 #[.pointer (some ⟨b, 0, none⟩), .int .i64 a] w fun e w' => e = .returned (.tuple #[.slice none 0 0, .int .i64 ce]) ∧ Below w.heap.size w w' := by
  obtain ⟨v, hB, hR⟩ := hS
  obtain ⟨A, c, rfl, hc, hC⟩ := Kd.R_reads hR
  have H1 := hidI (claw_Take.calls k A c xs a [] ce)
  have c0 := hB.c 0
  have HC := hidI hC
  have HT := hidI ht
  have hne : (ce == 0) = false := beq_eq_false_iff_ne.2 hce
  clear hB hC hR ht hce
  go_enter Try.func27, Try.ntmps27
  go_wp2_with fail
  refine (H1.out w HC.out hc HT.out).mono ?_
  rintro e w1 ⟨v1, rfl, hR1, hb1⟩
  simp only []
  clear hR1 H1
  go_wp2
  go_ret2
  exact ⟨rfl, hb1⟩
def minusAt (ys x : List Int) (j : Nat) : List Int := (List.zipWith (· - ·) ys x).take j ++ ys.drop j
def plusAt (ys x : List Int) (j : Nat) : List Int := (List.zipWith (· + ·) ys x).take j ++ ys.drop j
theorem opAt_len (f : Int → Int → Int) (ys x : List Int) (j : Nat) (h : x.length = ys.length) (hj : j ≤ x.length) : ((List.zipWith f ys x).take j ++ ys.drop j).length = ys.length := by
  simp; omega
theorem opAt_get (f : Int → Int → Int) (ys x : List Int) (j : Nat) (h : x.length = ys.length) (hj : j < x.length) : ((List.zipWith f ys x).take j ++ ys.drop j)[j]'(by rw [opAt_len f ys x j h (by omega)]; omega) = ys[j]'(by omega) := by
  rw [List.getElem_append_right (by simp; omega)]
  have : (List.take j (List.zipWith f ys x)).length = j := by simp; omega
  simp [this]
theorem opAt_set (f : Int → Int → Int) (ys x : List Int) (j : Nat) (h : x.length = ys.length) (hj : j < x.length) : ((List.zipWith f ys x).take j ++ ys.drop j).set j (f (ys[j]'(by omega)) x[j]) = (List.zipWith f ys x).take (j + 1) ++ ys.drop (j + 1) := by
  have hz : j < (List.zipWith f ys x).length := by simp; omega
  have hzl : (List.take j (List.zipWith f ys x)).length = j := by rw [List.length_take]; omega
  rw [List.take_succ_eq_append_getElem hz, List.getElem_zipWith, List.set_append, if_neg (by omega), hzl, Nat.sub_self, List.append_assoc]
  rw [List.drop_eq_getElem_cons (by omega : j < ys.length)]; rfl
theorem opAt_end (f : Int → Int → Int) (ys x : List Int) (h : x.length = ys.length) : (List.zipWith f ys x).take x.length ++ ys.drop x.length = List.zipWith f ys x := by
  rw [List.take_of_length_le (by simp; omega), h, List.drop_length, List.append_nil]
def RSt (w0 w : World) (b g : Nat) (nv : Value) (ys ns : List Int) : Prop :=
  (∃ v, Blk w b #[v] 48 ∧ IRn w w0.heap.size g v ys) ∧ Own li 1 2 w w0.heap.size nv ns ∧ Below w0.heap.size w0 w ∧ g < w.heap.size
theorem IR_of_own {w : World} {base : Nat} {v : Value} {xs : List Int} (h : Own li 1 2 w base v xs) : IR w base v xs := by
  unfold Own at h
  rw [flat_li] at h
  exact Kd.R_of_own h (fun _ _ => trivial)
theorem IRn.frb {w w1 : World} {base g b : Nat} {v : Value} {xs : List Int} {cs : Array Value} (h : IRn w base g v xs) (hB : Blk w b cs 48) (hf : Fr (fun k => k = b) w w1) : IRn w1 base g v xs := by
  have h1 := Kd.R_types h hB (by decide)
  exact Kd.R_mono (Kd.R_step h1 (fun k ok hk => hf.block k hk ok.2)) (fun k ok => ok.1)
theorem RSt.below {w0 w w1 : World} {b g : Nat} {nv : Value} {ys ns : List Int} (h : RSt w0 w b g nv ys ns) (hb : Below w.heap.size w w1) : RSt w0 w1 b g nv ys ns := by
  obtain ⟨⟨v, h1, h2⟩, h3, h4, h5⟩ := h
  exact ⟨⟨v, h1.be hb, Kd.R_below h2 hb⟩, h3.below hb, below_step h4 hb, Nat.lt_of_lt_of_le h5 hb.size⟩
theorem RSt.set {w0 w : World} {b g g' m c : Nat} {ys ns : List Int} (h : RSt w0 w b g (.slice (some ⟨g', 0, none⟩) m c) ys ns) (hg : g' = g) (hgw : w0.heap.size ≤ g) (i : Nat) (hi : i < ns.length) (v : Int) :
    RSt w0 (w.setCell ⟨g', i, none⟩ (.int .i64 v)) b g (.slice (some ⟨g', 0, none⟩) m c) ys (ns.set i v) := by
  subst hg
  obtain ⟨⟨u, h1, h2⟩, h3, h4, h5⟩ := h
  have hne : b ≠ g' := fun e => h3.ne h1 (by decide) (by rw [e]; rfl)
  refine ⟨⟨u, h1.so hne, Kd.R_far (p := ⟨g', i, none⟩) h2 (fun k hk => hk) _⟩, own_set h3 i hi v, h4.setCell (p := ⟨g', i, none⟩) hgw _, by simpa using h5⟩
theorem IRn.set {w : World} {base g g' : Nat} {v : Value} {xs : List Int} (h : IRn w base g v xs) (hg : g' = g) (i : Nat) (u : Value) : IRn (w.setCell ⟨g', i, none⟩ u) base g v xs := by
  subst hg
  exact Kd.R_far (p := ⟨g', i, none⟩) h (fun k hk => hk) _
def EqT (w : World) (e : Ending) (w' : World) : Prop := e = .returned (.bool true) ∧ Drawn0 w w'
theorem eq_rows {w : World} {A B : Option Addr} {c d : Nat} {ys : List Int} {b1 b2 : Nat} (h1 : IR w b1 (.slice A ys.length c) ys) (h2 : IR w b2 (.slice B ys.length d) ys) (hl : ys.length ≤ 1000) : Calls Try.prog 22 #[.slice A ys.length c, .slice B ys.length d] w (EqT w) := by
  obtain ⟨k, hk⟩ := eq_same ys hl
  obtain ⟨_, a1, a2⟩ := Kd.R_reads' h1
  obtain ⟨_, a3, a4⟩ := Kd.R_reads' h2
  exact slices_Equal_int64_int64.calls k A c ys B d ys true w a2 a1 a4 a3 hk
theorem RSt.eq {w0 w : World} {b g : Nat} {A4 : Option Addr} {m c4 : Nat} {ys : List Int} (h : RSt w0 w b g (.slice A4 m c4) ys ys) (hm : m = ys.length) (hl : ys.length ≤ 1000) :
    ∃ A c, w.cell? ⟨b, 0, none⟩ = some (.slice A m c) ∧ Calls Try.prog 22 #[.slice A m c, .slice A4 m c4] w (EqT w) := by
  subst hm
  obtain ⟨⟨v, h1, h2⟩, h3, h4, h5⟩ := h
  obtain ⟨A, c, rfl⟩ := Kd.R_slice h2
  exact ⟨A, c, h1.c 0, eq_rows h2.weak (IR_of_own h3) hl⟩
def Known (n : Nat) (ys : List Int) : Prop := ys.length = n ∧ ∀ y ∈ ys, inR y
set_option maxRecDepth 100000 in
set_option maxHeartbeats 8000000 in
theorem refunds_any (A0 : Option Addr) (c0 : Nat) (xs : List Int) (A1 : Option Addr) (c1 : Nat) (l : List Int) (A2 : Option Addr) (c2 : Nat) (u : List Bool) (w : World)
    (hr0 : Kd.C (Kd.int .i64) w A0 xs.length xs) (hc0 : xs.length ≤ c0) (hr1 : Kd.C (Kd.int .i64) w A1 l.length l) (hc1 : l.length ≤ c1) (hr2 : Kd.C Kd.bool w A2 u.length u) (hc2 : u.length ≤ c2)
    (hx : ∀ x ∈ xs, inR x) (hl : ∀ x ∈ l, inR x) :
    Calls Try.prog 8 #[.slice A0 xs.length c0, .slice A1 l.length c1, .slice A2 u.length c2] w fun e w' => e = .returned (.bool true) ∧ Below w.heap.size w w' := by
  have HR0 := hidI hr0
  have HR1 := hidI hr1
  have HR2 := hidI hr2
  have HX := hidI hx
  have HLS := hidI hl
  have hl0 := hr0.2.1
  have hl1 := hr1.2.1
  have hl2 := hr2.2.1
  clear hr0 hr1 hr2 hx hl
  have HL := hidI lives23
  by_cases h10 : 10 < xs.length
  · have t1 : decide ((xs.length : Int) > 10) = true := by simp; omega
    go_enter Try.func8, Try.ntmps8
    go_wp2_with fail
    refine (HL.out _).mono ?_
    rintro e w1 ⟨rfl, hb1⟩
    simp only []
    go_wp2_with fail
    refine (HL.out _).mono ?_
    rintro e w2 ⟨rfl, hb2⟩
    simp only []
    go_wp2
    go_ret
    exact ⟨rfl, below_step hb1 hb2⟩
  have t1 : decide ((xs.length : Int) > 10) = false := by simp; omega
  by_cases h40 : 40 < l.length
  · have t2 : decide ((l.length : Int) > 40) = true := by simp; omega
    go_enter Try.func8, Try.ntmps8
    go_wp2_with fail
    refine (HL.out _).mono ?_
    rintro e w1 ⟨rfl, hb1⟩
    simp only []
    go_wp2_with fail
    refine (HL.out _).mono ?_
    rintro e w2 ⟨rfl, hb2⟩
    simp only []
    go_wp2
    go_ret
    exact ⟨rfl, below_step hb1 hb2⟩
  have t2 : decide ((l.length : Int) > 40) = false := by simp; omega
  have HCL := hidI (fun w hr => slices_Clone_int64_int64.calls A0 c0 xs xs w hr hc0 (by unfold slices_Clone_int64_int64.f; rw [if_pos (by omega)]))
  go_enter Try.func8, Try.ntmps8
  go_wp2_with fail
  refine (HL.out _).mono ?_
  rintro e w1 ⟨rfl, hb1⟩
  simp only []
  clear HL
  go_wp2_with fail
  refine (HCL.out w1 (Kd.C_below HR0.out hb1)).mono ?_
  rintro e w2 ⟨v2, rfl, hv2, hb2⟩
  simp only []
  obtain ⟨A3, c3, rfl⟩ := Kd.R_slice hv2
  have HV2 := hidI hv2
  have HB2 := hidI (below_step hb1 hb2)
  have HZ2 := hidI hb1.size
  clear hv2 hb1 hb2
  go_wp2_with fail
  obtain ⟨b, hb⟩ : ∃ b, b = w2.heap.size := ⟨_, rfl⟩
  have hbw : w.heap.size ≤ b := by rw [hb]; exact HB2.out.size
  have hBl : Hid (Blk (w2.alloc (.cells #[.slice A3 xs.length c3] 48)) b #[.slice A3 xs.length c3] 48) := Blk.new' hb
  rw [← hb]
  refine (HCL.out _ (Kd.C_below HR0.out (below_new HB2.out _))).mono ?_
  rintro e w3 ⟨v3, rfl, hv3, hb3⟩
  simp only []
  obtain ⟨A4, c4, rfl⟩ := Kd.R_slice hv3
  have hsz : b + 1 ≤ (w2.alloc (.cells #[.slice A3 xs.length c3] 48)).heap.size := by show b + 1 ≤ (w2.heap.push _).size; rw [Array.size_push]; omega
  obtain ⟨g, hgo, hgl⟩ : ∃ g, (∀ k, (Value.slice A4 xs.length c4).ownBlock = some k → k = g) ∧ (g = b ∨ (w2.alloc (.cells #[.slice A3 xs.length c3] 48)).heap.size ≤ g ∧ g < w3.heap.size) := by
    cases ho : (Value.slice A4 xs.length c4).ownBlock with
    | none => exact ⟨b, (fun k hk => by cases hk), .inl rfl⟩
    | some g => exact ⟨g, (fun k hk => by cases hk; rfl), .inr ⟨Kd.R_base hv3 g ho, Kd.R_lt hv3 g ho⟩⟩
  have hgw : w.heap.size ≤ g := by omega
  have hRS : Hid (RSt w w3 b g (.slice A4 xs.length c4) xs xs) := by
    have hb3s := hb3.size
    refine ⟨⟨_, hBl.out.be hb3, ?_⟩, ?_, below_step (below_new HB2.out _) hb3, by omega⟩
    · have h2 : IRn (w2.alloc (.cells #[.slice A3 xs.length c3] 48)) w.heap.size g (.slice A3 xs.length c3) xs := Kd.R_below (Kd.R_mono (Kd.R_bound (Kd.R_lower HV2.out HZ2.out)) (fun k hk => by have := hk.2.2.1; omega)) (below_new (Below.refl _ _) _)
      exact Kd.R_below h2 hb3
    · have h := Kd.own_of_R hv3
      refine Own.lower (base := (w2.alloc (.cells #[.slice A3 xs.length c3] 48)).heap.size) ?_ (by omega)
      unfold Own
      rw [flat_li]
      exact h
  have HGO := hidI hgo
  have hKN : Known xs.length xs := ⟨rfl, HX.out⟩
  clear hgo
  have HKN := hidI hKN
  clear hv3 hb3 hBl HV2 HB2 HZ2 hKN hsz hgl hb
  go_wp2
  go_loopw [44] (fun i wr => ∃ (j : Nat) (ys : List Int), j ≤ l.length ∧ i = .int .i64 j ∧ Hid (RSt w wr b g (.slice A4 xs.length c4) ys ys) ∧ Hid (Known xs.length ys)) (fun i _ => l.length - (intOf i).toNat)
  case atStart => exact ⟨0, xs, Nat.zero_le _, rfl, hRS, HKN⟩
  case round =>
    obtain ⟨j, ys, hj, rfl, HS, HK⟩ := hrel
    by_cases hlt : j < l.length
    · obtain ⟨b1, off1, hA1, hcl⟩ := C_ints HR1.out (by omega)
      subst hA1
      have q0 := pw_cell_below HS.out.2.2.1 (hcl j hlt)
      obtain ⟨n, hn⟩ : ∃ n, n = l[j] := ⟨_, rfl⟩
      rw [← hn] at q0
      have hni : inR n := by rw [hn]; exact HLS.out _ (List.getElem_mem hlt)
      obtain ⟨k, k1, k2⟩ := take_both ys n HK.out.2 hni (by rw [HK.out.1]; omega)
      have hyl : ys.length = xs.length := HK.out.1
      have HYL := hidI hyl
      obtain ⟨⟨v, hB, hR⟩, hO, hW, hg⟩ := HS.out
      obtain ⟨g0, g1, g2⟩ := Kd.R_reads' (IR_of_own hO)
      clear g0
      rcases takeF_cases ys n with ⟨c, hc, ht⟩ | ⟨ht, h0, h1, hw, hs⟩
      · rw [ht] at k1 k2
        have H1 := hidI (refund_nc k b w.heap.size ys n c hc wr ⟨v, hB, hR.weak⟩ k1)
        have H2 : Hid (∀ w', Below wr.heap.size wr w' → Calls Try.prog 26 #[.slice A4 xs.length c4, .int .i64 n] w' fun e w'' => ∃ v0_ : Value, e = .returned (.tuple #[v0_, .int .i64 c]) ∧ IR w'' w'.heap.size v0_ [] ∧ Below w'.heap.size w' w'') := fun w' hb => by
          have := soukref11_Take.calls k A4 c4 ys n [] c w' (Kd.C_below g2 hb) (by omega) k2
          rw [hyl] at this
          exact this
        have HC0 : Hid ((c == 0) = false) := beq_eq_false_iff_ne.2 hc
        clear hn hni k1 k2 ht hc hcl hB hR hO hW hg g1 g2 hRS HKN hyl
        go_wp2_with fail
        refine H1.out.mono ?_
        rintro e w2 ⟨rfl, hb2⟩
        simp only []
        have HB2 := hidI hb2
        clear hb2 H1 q0
        go_wp2_with fail
        with_reducible refine (H2.out w2 HB2.out).mono ?_
        rintro e w4 ⟨v4, rfl, hv4, hb4⟩
        simp only []
        obtain ⟨A5, c5, rfl⟩ := Kd.R_slice hv4
        have HE : Hid (Calls Try.prog 22 #[.slice none 0 0, .slice A5 0 c5] w4 (EqT w4)) := eq_rows (ys := []) (IR_nil w4 0) hv4 (by decide)
        have HB4 := hidI (below_step HB2.out hb4)
        clear hv4 hb4 HB2 H2
        go_wp2_with fail
        with_reducible refine HE.out.mono ?_
        rintro e w5 ⟨rfl, ⟨nd, rfl⟩⟩
        simp only []
        clear HE
        have hS5 := hidI (HS.out.below (below_drewN HB4.out nd))
        obtain ⟨A6, c6, c9, hE2⟩ := hS5.out.eq HYL.out.symm (by have := HYL.out; omega)
        have HE2 := hidI hE2
        clear hE2
        go_wp2
        refine wp_loop_rounds 1 ?_
        rw [rounds_succ]
        go_wp2_with fail
        with_reducible refine HE2.out.mono ?_
        rintro e w6 ⟨rfl, ⟨nd2, rfl⟩⟩
        simp only []
        have hS6 : Hid (RSt w (w4.drewN (nd + nd2)) b g (.slice A4 xs.length c4) ys ys) := HS.out.below (below_drewN HB4.out (nd + nd2))
        clear HE2 hS5 c9 HB4 HS
        have hc0' := HC0.out
        go_wp2
        go_roundw
        case rel => exact ⟨j + 1, ys, by omega, by go_num, hS6, HK⟩
        case measure => simp [intOf] <;> omega
      · obtain ⟨a1, a2, a3, a4, a5⟩ := after_more ys n h0 h1 hw hs
        obtain ⟨kl, hkl⟩ := less_both ys n h0 h1 hw hs (by omega)
        rw [ht] at k1 k2
        obtain ⟨x, hxe⟩ : ∃ x, x = partsF n ys := ⟨_, rfl⟩
        obtain ⟨zs, hze⟩ : ∃ zs, zs = afterF ys n := ⟨_, rfl⟩
        have hzd : Hid (zs = List.zipWith (· - ·) ys x) := by show _ = _; rw [hze, hxe]; rfl
        rw [← hxe] at k1 k2 hkl a1 a2 a3 a5
        rw [← hze] at hkl a4 a5
        obtain ⟨kk, q1, q2⟩ : ∃ kk, claw_Take.f kk ys n = some (x, 0) ∧ claw_less.f kk ys x = some zs := by
          obtain ⟨m1, g1⟩ := take_ok ys n HK.out.2 hni (by omega)
          obtain ⟨m2, g2⟩ := cless_ok ys x a1 (by omega) (fun i h => by have := a3 i h (by omega); have := mem_le_sum ys hw _ (List.getElem_mem (l := ys) (n := i) (by omega)); unfold inR; omega)
          exact ⟨m1 + m2, (g1 (m1 + m2) (by omega)).trans (by rw [ht, hxe]), (g2 (m1 + m2) (by omega)).trans (by rw [hzd.out])⟩
        have H1 := hidI (refund_ok kk b w.heap.size ys x zs n wr ⟨v, hB, hR.weak⟩ q1 q2)
        have hxl : Hid (x.length = xs.length) := by show _ = _; omega
        have hzl : Hid (zs.length = xs.length) := by show _ = _; rw [hzd.out]; simp; omega
        have HA2 := hidI a2
        have HA3 := hidI a3
        have HA4 := hidI a4
        have HA5 := hidI a5
        have HK2 := hidI k2
        have HG := hidI hg
        have HW := hidI hW
        have HO := hidI hO
        have HB := hidI hB
        have hxl2 : x.length ≤ 10 := by omega
        clear hn hni k1 k2 ht h0 h1 hw hs hcl hB hR hO hW hg g1 g2 hRS HKN hyl hkl a1 a2 a3 a4 a5 q1 q2 hxe hze
        go_wp2_with fail
        with_reducible refine H1.out.mono ?_
        rintro e w2 ⟨v2, rfl, hv2, hsale, hfr⟩
        simp only []
        rw [if_pos rfl] at hsale
        obtain ⟨A5, c5, rfl⟩ := Kd.R_slice hv2
        have hO2 := HO.out.fr hfr (fun k hk e => HO.out.ne HB.out (by decide) (by rw [hk, e]))
        have hS2 : Hid (RSt w w2 b g (.slice A4 xs.length c4) zs ys ∧ IRn w2 w.heap.size g (.slice A5 x.length c5) x) := by
          obtain ⟨v, hB2, hR2⟩ := hsale
          have hz := HW.out.size
          have hgg := HG.out
          exact ⟨⟨⟨v, hB2, Kd.R_lower (hR2.away hgg) hz⟩, hO2, (Fr.trans (S := fun k => k = b) (Fr.of_below HW.out) hfr (fun _ _ h => h)).toBelow (fun k hk h => by omega), Nat.lt_of_lt_of_le hgg hfr.size⟩, Kd.R_lower (hv2.away hgg) hz⟩
        have H2 : Hid (Calls Try.prog 26 #[.slice A4 xs.length c4, .int .i64 n] w2 fun e w'' => ∃ v0_ : Value, e = .returned (.tuple #[v0_, .int .i64 0]) ∧ IR w'' w2.heap.size v0_ x ∧ Below w2.heap.size w2 w'') := by
          obtain ⟨_, g1, g2⟩ := Kd.R_reads' (IR_of_own hO2)
          have := soukref11_Take.calls k A4 c4 ys n x 0 w2 g2 (by have := HYL.out; omega) HK2.out
          rw [HYL.out] at this
          exact this
        clear hv2 hsale hfr hO2 H1 q0 HO HB HW HG
        go_wp2_with fail
        with_reducible refine H2.out.mono ?_
        rintro e w4 ⟨v4, rfl, hv4, hb4⟩
        simp only []
        obtain ⟨A6, c6, rfl⟩ := Kd.R_slice hv4
        have hS4 : Hid (RSt w w4 b g (.slice A4 xs.length c4) zs ys ∧ IRn w4 w.heap.size g (.slice A5 x.length c5) x ∧ IRn w4 w.heap.size g (.slice A6 x.length c6) x) :=
          ⟨hS2.out.1.below hb4, Kd.R_below hS2.out.2 hb4, Kd.R_lower (hv4.away hS2.out.1.2.2.2) hS2.out.1.2.2.1.size⟩
        have HE : Hid (Calls Try.prog 22 #[.slice A5 x.length c5, .slice A6 x.length c6] w4 (EqT w4)) := eq_rows hS4.out.2.1.weak hS4.out.2.2.weak (by omega)
        clear hv4 hb4 H2 hS2
        go_wp2_with fail
        with_reducible refine HE.out.mono ?_
        rintro e w5 ⟨rfl, ⟨nd, rfl⟩⟩
        simp only []
        have hS5 : Hid (RSt w (w4.drewN nd) b g (.slice A4 xs.length c4) zs (minusAt ys x 0) ∧ IRn (w4.drewN nd) w.heap.size g (.slice A5 x.length c5) x ∧ IRn (w4.drewN nd) w.heap.size g (.slice A6 x.length c6) x) := by
          have hb := below_drewN (Below.refl w4.heap.size w4) nd
          exact ⟨by have := hS4.out.1.below hb; simpa [minusAt] using this, Kd.R_below hS4.out.2.1 hb, Kd.R_below hS4.out.2.2 hb⟩
        clear HE hS4
        go_wp2
        go_loopw [72] (fun i wt => ∃ m : Nat, m ≤ x.length ∧ i = .int .i64 m ∧ Hid (RSt w wt b g (.slice A4 xs.length c4) zs (minusAt ys x m) ∧ IRn wt w.heap.size g (.slice A5 x.length c5) x ∧ IRn wt w.heap.size g (.slice A6 x.length c6) x)) (fun i _ => x.length - (intOf i).toNat)
        case atStart => exact ⟨0, Nat.zero_le _, rfl, hS5⟩
        case round =>
          obtain ⟨m, hm, rfl, HM⟩ := hrel
          by_cases hlm : m < x.length
          · obtain ⟨r0, r1, r2⟩ := HM.out
            obtain ⟨_, _, hC6⟩ := Kd.R_reads' r2
            obtain ⟨b6, off6, hA6, hc6⟩ := C_ints hC6 (by omega)
            subst hA6
            have q1 := hc6 m hlm
            have hml : (minusAt ys x m).length = xs.length := by unfold minusAt; rw [opAt_len _ _ _ _ (by have := hxl.out; have := HYL.out; omega) (by omega)]; exact HYL.out
            have hmx : m < xs.length := by have := hxl.out; omega
            rcases r0.2.1.cases_ with ⟨_, h0⟩ | ⟨g', cap, e4, hcap, hcm, hgb, hgl⟩
            · rw [h0] at hml; simp at hml; omega
            rw [hml] at e4
            injection e4 with e41 e42 e43
            subst e41 e43
            have hg' : g' = g := HGO.out g' rfl
            have hmn : m < (minusAt ys x m).length := by omega
            have hoc := own_cell (n := xs.length) r0.2.1 m hmn
            have hys : m < ys.length := by have := HYL.out; omega
            have hval : (minusAt ys x m)[m] = ys[m] := opAt_get _ ys x m (by have := hxl.out; have := HYL.out; omega) hlm
            rw [hval] at hoc
            obtain ⟨q2, f2⟩ := hoc
            have hbd := HA3.out m hlm hys
            have hyr := HK.out.2 _ (List.getElem_mem hys)
            have hst := r0.set hg' hgw m hmn (ys[m] - x[m])
            rw [show (minusAt ys x m).set m (ys[m] - x[m]) = minusAt ys x (m + 1) from opAt_set (· - ·) ys x m (by have := hxl.out; have := HYL.out; omega) hlm] at hst
            have hfin := hidI (And.intro hst (And.intro (r1.set hg' m (.int .i64 (ys[m] - x[m]))) (r2.set hg' m (.int .i64 (ys[m] - x[m])))))
            obtain ⟨xm, hxm⟩ : ∃ xm, xm = x[m] := ⟨_, rfl⟩
            obtain ⟨ym, hym⟩ : ∃ ym, ym = ys[m] := ⟨_, rfl⟩
            rw [← hxm] at q1 hbd hfin
            rw [← hym] at q2 hbd hyr hfin
            unfold inR at hyr
            obtain ⟨hbd1, hbd2⟩ := hbd
            obtain ⟨hyr1, hyr2⟩ := hyr
            clear r0 r1 r2 hC6 hc6 HM hml hst hg' hmn hval hxm hym hcap hcm hgb hgl e42 hS5
            go_wp2
            go_roundw
            case rel => exact ⟨m + 1, by omega, by go_num, hfin⟩
            case measure => simp [intOf] <;> omega
          · obtain rfl : m = x.length := by omega
            have hlz : x.length = ys.length := by have := hxl.out; have := HYL.out; omega
            have hS6 : Hid (RSt w wr b g (.slice A4 xs.length c4) zs zs ∧ IRn wr w.heap.size g (.slice A5 x.length c5) x ∧ IRn wr w.heap.size g (.slice A6 x.length c6) x) := by
              obtain ⟨r0, r1, r2⟩ := HM.out
              rw [show minusAt ys x x.length = zs from by unfold minusAt; rw [opAt_end _ _ _ hlz, hzd.out]] at r0
              exact ⟨r0, r1, r2⟩
            obtain ⟨A7, c7, c9, hE2⟩ := hS6.out.1.eq hzl.out.symm (by have := hzl.out; omega)
            have HE2 := hidI hE2
            have HLZ := hidI hlz
            clear hE2 HM hlz hS5
            go_wp2_with fail
            with_reducible refine HE2.out.mono ?_
            rintro e w7 ⟨rfl, ⟨nd2, rfl⟩⟩
            simp only []
            have hS7 : Hid (RSt w (wr.drewN nd2) b g (.slice A4 xs.length c4) zs zs ∧ IRn (wr.drewN nd2) w.heap.size g (.slice A5 x.length c5) x ∧ IRn (wr.drewN nd2) w.heap.size g (.slice A6 x.length c6) x) := by
              have hb := below_drewN (Below.refl wr.heap.size wr) nd2
              exact ⟨hS6.out.1.below hb, Kd.R_below hS6.out.2.1 hb, Kd.R_below hS6.out.2.2 hb⟩
            have hKZ : Hid (Known xs.length zs) := ⟨hzl.out, HA4.out⟩
            clear HE2 c9 hS6
            by_cases hu : j < u.length
            · obtain ⟨b8, off8, hA8, hc8⟩ := C_bools HR2.out (by omega)
              subst hA8
              have q8 := pw_cell_below hS7.out.1.2.2.1 (hc8 j hu)
              obtain ⟨ub, hub⟩ : ∃ ub, ub = u[j] := ⟨_, rfl⟩
              rw [← hub] at q8
              clear hc8 hub
              cases ub with
              | false =>
                go_wp2
                go_roundw
                case rel => exact ⟨j + 1, zs, by omega, by go_num, hS7.out.1, hKZ⟩
                case measure => simp [intOf] <;> omega
              | true =>
                have H3 : Hid (Calls Try.prog 30 #[.pointer (some ⟨b, 0, none⟩), .slice A5 x.length c5] (wr.drewN nd2) (UndoP (wr.drewN nd2) (wr.drewN nd2).heap.size b ys 0)) := by
                  obtain ⟨⟨v, hB, hR⟩, hO, hW, hg⟩ := hS7.out.1
                  obtain ⟨_, g1, g2⟩ := Kd.R_reads' hS7.out.2.1
                  have hz5 := HA5.out
                  have := undo_ok b w.heap.size zs x A5 c5 (wr.drewN nd2) ⟨v, hB, hR.weak⟩ (by have := hzl.out; have := hxl.out; omega) g2 g1 HA2.out (fun i hi => by
                    have hiy : i < ys.length := by have := hzl.out; have := HYL.out; omega
                    have hix : i < x.length := by have := HLZ.out; omega
                    have e : ys[i] = zs[i] + x[i] := by
                      have e1 : (List.zipWith (· + ·) zs x)[i]'(by simp; omega) = zs[i] + x[i] := by simp
                      rw [← e1]; congr 1; exact hz5.symm
                    refine ⟨HA4.out _ (List.getElem_mem hi), ?_⟩
                    rw [← e]
                    exact HK.out.2 _ (List.getElem_mem hiy)) (by omega)
                  rw [HA5.out] at this
                  exact this
                go_wp2_with fail
                with_reducible refine H3.out.mono ?_
                rintro e w8 ⟨rfl, hsale, hfr⟩
                simp only []
                have hS8 : Hid (RSt w w8 b g (.slice A4 xs.length c4) ys (plusAt zs x 0) ∧ IRn w8 w.heap.size g (.slice A6 x.length c6) x) := by
                  obtain ⟨⟨v, hB, hR⟩, hO, hW, hg⟩ := hS7.out.1
                  obtain ⟨v2, hB2, hR2⟩ := hsale
                  refine ⟨⟨⟨v2, hB2, Kd.R_lower (hR2.away hg) hW.size⟩, ?_, (Fr.trans (S := fun k => k = b) (Fr.of_below hW) hfr (fun _ _ h => h)).toBelow (fun k hk h => by omega), Nat.lt_of_lt_of_le hg hfr.size⟩, hS7.out.2.2.frb hB hfr⟩
                  have := hO.fr hfr (fun k hk e => hO.ne hB (by decide) (by rw [hk, e]))
                  simpa [plusAt] using this
                clear hsale hfr H3 hS7 q8
                go_wp2
                go_loopw [112] (fun i wt => ∃ m : Nat, m ≤ x.length ∧ i = .int .i64 m ∧ Hid (RSt w wt b g (.slice A4 xs.length c4) ys (plusAt zs x m) ∧ IRn wt w.heap.size g (.slice A6 x.length c6) x)) (fun i _ => x.length - (intOf i).toNat)
                case atStart => exact ⟨0, Nat.zero_le _, rfl, hS8⟩
                case round =>
                  obtain ⟨m, hm, rfl, HM⟩ := hrel
                  by_cases hlm : m < x.length
                  · obtain ⟨r0, r2⟩ := HM.out
                    obtain ⟨_, _, hC6⟩ := Kd.R_reads' r2
                    obtain ⟨b6, off6, hA6, hc6⟩ := C_ints hC6 (by omega)
                    subst hA6
                    have q1 := hc6 m hlm
                    have hml : (plusAt zs x m).length = xs.length := by unfold plusAt; rw [opAt_len _ _ _ _ (by have := hxl.out; have := hzl.out; omega) (by omega)]; exact hzl.out
                    have hmx : m < xs.length := by have := hxl.out; omega
                    rcases r0.2.1.cases_ with ⟨_, h0⟩ | ⟨g', cap, e4, hcap, hcm, hgb, hgl⟩
                    · rw [h0] at hml; simp at hml; omega
                    rw [hml] at e4
                    injection e4 with e41 e42 e43
                    subst e41 e43
                    have hg' : g' = g := HGO.out g' rfl
                    have hmn : m < (plusAt zs x m).length := by omega
                    have hoc := own_cell (n := xs.length) r0.2.1 m hmn
                    have hzz : m < zs.length := by have := hzl.out; omega
                    have hys : m < ys.length := by have := HYL.out; omega
                    have hval : (plusAt zs x m)[m] = zs[m] := opAt_get _ zs x m (by have := hxl.out; have := hzl.out; omega) hlm
                    rw [hval] at hoc
                    obtain ⟨q2, f2⟩ := hoc
                    have hsum : zs[m] + x[m] = ys[m] := by
                      have e1 : (List.zipWith (· + ·) zs x)[m]'(by simp; omega) = zs[m] + x[m] := by simp
                      rw [← e1]; congr 1 <;> exact HA5.out
                    have hbd := HK.out.2 _ (List.getElem_mem hys)
                    rw [← hsum] at hbd
                    have hst := r0.set hg' hgw m hmn (zs[m] + x[m])
                    rw [show (plusAt zs x m).set m (zs[m] + x[m]) = plusAt zs x (m + 1) from opAt_set (· + ·) zs x m (by have := hxl.out; have := hzl.out; omega) hlm] at hst
                    have hfin := hidI (And.intro hst (r2.set hg' m (.int .i64 (zs[m] + x[m]))))
                    obtain ⟨xm, hxm⟩ : ∃ xm, xm = x[m] := ⟨_, rfl⟩
                    obtain ⟨zm, hzm⟩ : ∃ zm, zm = zs[m] := ⟨_, rfl⟩
                    rw [← hxm] at q1 hbd hfin
                    rw [← hzm] at q2 hbd hfin
                    unfold inR at hbd
                    obtain ⟨hbd1, hbd2⟩ := hbd
                    clear r0 r2 hC6 hc6 HM hml hst hg' hmn hval hxm hzm hcap hcm hgb hgl e42 hsum hS8
                    go_wp2
                    go_roundw
                    case rel => exact ⟨m + 1, by omega, by go_num, hfin⟩
                    case measure => simp [intOf] <;> omega
                  · obtain rfl : m = x.length := by omega
                    have hS9 : Hid (RSt w wr b g (.slice A4 xs.length c4) ys ys) := by
                      have r0 := HM.out.1
                      rw [show plusAt zs x x.length = ys from by unfold plusAt; rw [opAt_end _ _ _ (by have := hxl.out; have := hzl.out; omega), HA5.out]] at r0
                      exact r0
                    clear HM hS8
                    go_wp2
                    go_roundw
                    case rel => exact ⟨j + 1, ys, by omega, by go_num, hS9, HK⟩
                    case measure => simp [intOf] <;> omega
            · go_wp2
              go_roundw
              case rel => exact ⟨j + 1, zs, by omega, by go_num, hS7.out.1, hKZ⟩
              case measure => simp [intOf] <;> omega
    · obtain rfl : j = l.length := by omega
      have H1 := hidI (refund_nil 1 wr)
      have hyl : Hid (xs.length = ys.length) := HK.out.1.symm
      clear hRS HKN hj hlt
      go_wp2_with fail
      with_reducible refine H1.out.mono ?_
      rintro e w2 ⟨rfl, rfl⟩
      simp only []
      clear H1
      have H2 := hidI (HCL.out wr (Kd.C_below HR0.out HS.out.2.2.1))
      go_wp2_with fail
      with_reducible refine H2.out.mono ?_
      rintro e w4 ⟨v4, rfl, hv4, hb4⟩
      simp only []
      obtain ⟨A6, c6, rfl⟩ := Kd.R_slice hv4
      have hS4 := hidI (HS.out.below hb4)
      have HO4 : Hid (Own li 1 2 w4 w.heap.size (.slice A6 xs.length c6) xs) := by
        show Own _ _ _ _ _ _ _
        refine Own.lower (base := wr.heap.size) ?_ HS.out.2.2.1.size
        unfold Own
        rw [flat_li]
        exact Kd.own_of_R hv4
      have HB4 := hidI hS4.out.2.2.1
      have HSZ := HB4.out.size
      have hnn : Hid ((Value.slice A6 xs.length c6).ownBlock ≠ some b) := HO4.out.ne hS4.out.1.choose_spec.1 (by decide)
      have hfar : Hid (∀ k, (Value.slice A6 xs.length c6).ownBlock = some k → wr.heap.size ≤ k) := fun k hk => Kd.R_base hv4 k hk
      have HBB := hidI hb4
      clear hv4 hb4 H2 HCL
      go_wp2_with (at_builtin; refine print_append_cells (w0 := w) (W := w4) w.heap.size rfl (.tmp 133) (.tmp 134) 22 2 (.int .i64 0) 1 8 rfl Try.underlying22 info2 rfl (by decide) (by decide) (.slice A6 xs.length c6) xs.length (xs.flatMap li) [.int .i64 1] (by rfl) (by rfl) rfl (by simp [Value.oneCell']) HO4.out HB4.out HSZ (by omega) ?_; intro v5 w5 ho5 hb5 hg5 hat5; clear hat5; obtain ⟨A5, k5, rfl, hk5⟩ := (Own.snoc (l := li) (p := (1 : Int)) ho5).slice_; clear ho5; have hS5 : Hid (RSt w w5 b g (.slice A4 xs.length c4) ys ys) := HS.out.below (HBB.out.grown hg5 HBB.out.size hfar.out); clear hg5)
      have H5 : Hid (Calls Try.prog 30 #[.pointer (some ⟨b, 0, none⟩), .slice A5 (xs.length + 1) k5] w5 (UndoP w5 w.heap.size b ys 1)) := by
        obtain ⟨⟨v, hB, hR⟩, _⟩ := hS5.out
        have := undo_len b w.heap.size ys (xs ++ [1]) A5 k5 w5 ⟨v, hB, hR.weak⟩ (by rw [List.length_append]; have := hyl.out; simp; omega)
        rw [List.length_append] at this
        exact this
      clear HO4 HB4 hnn hfar HBB hS4 hb5
      with_reducible refine H5.out.mono ?_
      rintro e w6 ⟨rfl, hsale, hfr⟩
      simp only []
      obtain ⟨v6, hB6, hR6⟩ := hsale
      obtain ⟨A8, c8, rfl⟩ := Kd.R_slice hR6
      have hO6 : Hid (IR w6 w.heap.size (.slice A4 xs.length c4) ys ∧ Below w.heap.size w w6) := by
        obtain ⟨⟨v, hB, hR⟩, hO, hW, hg⟩ := hS5.out
        exact ⟨IR_of_own (hO.fr hfr (fun k hk e => hO.ne hB (by decide) (by rw [hk, e]))), (Fr.trans (S := fun k => k = b) (Fr.of_below hW) hfr (fun _ _ h => h)).toBelow (fun k hk h => by omega)⟩
      have HE : Hid (Calls Try.prog 22 #[.slice A8 xs.length c8, .slice A4 xs.length c4] w6 (EqT w6)) := by
        have h2 := hO6.out.1
        rw [hyl.out] at h2 ⊢
        exact eq_rows hR6 h2 (by have := hyl.out; omega)
      have c9 := hB6.c 0
      rw [← hyl.out] at c9
      have HW6 := hidI hO6.out.2
      clear hB6 hR6 hfr H5 hS5 hO6 HS
      go_wp2_with fail
      with_reducible refine HE.out.mono ?_
      rintro e w7 ⟨rfl, ⟨nd, rfl⟩⟩
      simp only []
      have HN := hidI (undo_nil none 0 0 (w6.drewN nd))
      go_wp2_with fail
      with_reducible refine HN.out.mono ?_
      rintro e w8 ⟨rfl, rfl⟩
      simp only []
      go_wp2
      go_ret
      exact ⟨rfl, below_drewN HW6.out nd⟩
end Go.Proofs.Ytncnhhnbjmpomaa
namespace Go.Proofs.Ytncnhhnbjmpomaa
open Go.RowKit Go.Proofs.Rk Go.Proofs.YtncnhhnbjmpomaaW.PrintWords
set_option linter.unusedVariables false
theorem C_ints_of {k : IntKind} {w : World} {A : Option Addr} {xs : List Int} {cap : Nat} {ok : Int → Prop} (h : RdSl w (fun n : Int => [Value.int k n]) ok 1 A xs cap) : Kd.C (Kd.int k) w A xs.length xs := by
  have h := Kp.C_of_rd (l := fun n : Int => [Value.int k n]) (hl := fun _ => rfl) (h1 := fun _ u hu => by rcases List.mem_singleton.1 hu with rfl; rfl) (by decide) h
  obtain ⟨h1, h2, h3⟩ := h
  refine ⟨h1, h2, fun hn => ?_⟩
  obtain ⟨ad, e, hc⟩ := h3 hn
  refine ⟨ad, e, fun j q hj => ?_⟩
  obtain ⟨c, hc1, hc2, hc3⟩ := hc j q hj
  obtain rfl : c = [Value.int k q] := hc2
  exact ⟨[Value.int k q], rfl, rfl, hc3⟩
end Go.Proofs.Ytncnhhnbjmpomaa
namespace Go.Proofs.Ytncnhhnbjmpomaa
open Go.RowKit Go.Proofs.Rk Go.Proofs.YtncnhhnbjmpomaaW.PrintWords
set_option linter.unusedVariables false
theorem C_bools_of {w : World} {A : Option Addr} {xs : List Bool} {cap : Nat} {ok : Bool → Prop} (h : RdSl w (fun n : Bool => [Value.bool n]) ok 1 A xs cap) : Kd.C Kd.bool w A xs.length xs := by
  have h := Kp.C_of_rd (l := fun n : Bool => [Value.bool n]) (hl := fun _ => rfl) (h1 := fun _ u hu => by rcases List.mem_singleton.1 hu with rfl; rfl) (by decide) h
  obtain ⟨h1, h2, h3⟩ := h
  refine ⟨h1, h2, fun hn => ?_⟩
  obtain ⟨ad, e, hc⟩ := h3 hn
  refine ⟨ad, e, fun j q hj => ?_⟩
  obtain ⟨c, hc1, hc2, hc3⟩ := hc j q hj
  obtain rfl : c = [Value.bool q] := hc2
  exact ⟨[Value.bool q], rfl, rfl, hc3⟩
theorem walk8 (ad : Option Addr) (xs : List Int) (cap : Nat) (ad1 : Option Addr) (ps : List Int) (cap1 : Nat) (ad2 : Option Addr) (us : List Bool) (cap2 : Nat) (w : World) (h : RdSl w (Kn.int Try.underlying2).cells (Kn.int Try.underlying2).ok 1 ad xs cap) (hs : xs.length * 8 ≤ 140737488351232)
    (h1 : RdSl w (Kn.int Try.underlying2).cells (Kn.int Try.underlying2).ok 1 ad1 ps cap1) (hs1 : ps.length * 8 ≤ 140737488351232) (h2 : RdSl w (Kn.bool Try.underlying4).cells (Kn.bool Try.underlying4).ok 1 ad2 us cap2) (hs2 : us.length * 1 ≤ 140737488351232) :
    Calls Try.prog 8 #[.slice ad xs.length cap, .slice ad1 ps.length cap1, .slice ad2 us.length cap2] w fun e w' => e = .returned (.bool true) ∧ Below w.heap.size w w' := by
  exact refunds_any ad cap xs ad1 cap1 ps ad2 cap2 us w (C_ints_of h) (Kp.cap_of_rd h) (C_ints_of h1) (Kp.cap_of_rd h1) (C_bools_of h2) (Kp.cap_of_rd h2) (fun x hx => bounds_i64 (Kp.ok_of_rd h x hx)) (fun x hx => bounds_i64 (Kp.ok_of_rd h1 x hx))
end Go.Proofs.Ytncnhhnbjmpomaa
