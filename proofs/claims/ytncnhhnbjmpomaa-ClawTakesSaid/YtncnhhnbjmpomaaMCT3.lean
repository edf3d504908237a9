/- What the statement leans on, part 3: functions of the program and of the reference as Lean functions, their contracts, and plain laws. -/
import Derived.Laws.StructEq
import Derived.Shelf.SlGeneric
import Derived.Shelf.SlSortCmp.InsertionK
import Derived.Ground.SlsfProg
import Derived.Maps.RangeWalk
import Derived.Test.YtncnhhnbjmpomaaMCT2
namespace Go.Proofs.Ytncnhhnbjmpomaa.Q
open Go.RowKit Go.Proofs.YtncnhhnbjmpomaaW.PrintWords Go.Proofs.Ytncnhhnbjmpomaa
set_option linter.unusedVariables false
set_option linter.unusedSimpArgs false
def Ra (x y : S98) : Prop := y.f1 < x.f1 ∨ (x.f1 = y.f1 ∧ x.f0 < y.f0)
theorem bsearch {β : Type} (F : Nat → Nat → Nat → Option β) (G : Nat → Nat → Option β) (p : Nat → Prop) (i0 j0 : Nat) (hstop : ∀ k i, F (k + 1) i i = G k i)
    (hstep : ∀ i j, i0 ≤ i → i < j → j ≤ j0 → (p ((i + j) / 2) → ∀ k, F (k + 1) i j = F k ((i + j) / 2 + 1) j) ∧ (¬ p ((i + j) / 2) → ∀ k, F (k + 1) i j = F k i ((i + j) / 2)))
    (mono : ∀ t1 t2, i0 ≤ t1 → t1 ≤ t2 → t2 < j0 → p t2 → p t1) :
    ∀ (d i j : Nat), j - i ≤ d → i ≤ j → i0 ≤ i → j ≤ j0 → (∀ t, i0 ≤ t → t < i → p t) → (∀ t, j ≤ t → t < j0 → ¬ p t) → ∃ s, i0 ≤ s ∧ s ≤ j0 ∧ (∀ t, i0 ≤ t → t < s → p t) ∧ (∀ t, s ≤ t → t < j0 → ¬ p t) ∧ ∀ v : β, EvT (fun k => G k s) v → EvT (fun k => F k i j) v
  | d, i, j, hd, hij, hi, hj, h1, h2 => by
    by_cases he : i = j
    · subst he
      exact ⟨i, hi, hj, h1, h2, fun v h => EvT.step (fun k => hstop k i) h⟩
    · obtain ⟨s1, s2⟩ := hstep i j hi (by omega) hj
      cases d with
      | zero => omega
      | succ d =>
        by_cases hp : p ((i + j) / 2)
        · obtain ⟨s, g1, g2, g3, g4, g5⟩ := bsearch F G p i0 j0 hstop hstep mono d ((i + j) / 2 + 1) j (by omega) (by omega) (by omega) hj (fun t a b => mono t ((i + j) / 2) a (by omega) (by omega) hp) h2
          exact ⟨s, g1, g2, g3, g4, fun v h => EvT.step (s1 hp) (g5 v h)⟩
        · obtain ⟨s, g1, g2, g3, g4, g5⟩ := bsearch F G p i0 j0 hstop hstep mono d i ((i + j) / 2) (by omega) (by omega) hi (by omega) h1 (fun t a b => fun ht => hp (mono ((i + j) / 2) t (by omega) a b ht))
          exact ⟨s, g1, g2, g3, g4, fun v h => EvT.step (s2 hp) (g5 v h)⟩
theorem up_ok (A : List S98) (x : S98) : ∀ (Q R A : List S98), (A ++ x :: (Q ++ R)).length < 100000 → EvT (fun k => money_rest_75.l1 k (A ++ x :: (Q ++ R)) ((A.length + 1 + Q.length : Nat) : Int) (A.length : Nat)) (A ++ (Q ++ x :: R))
  | [], R, A, hl => EvT.done fun k => by
    simp only [money_rest_75.l1]
    have h1 := swn (x := ((A.length + 1 + ([] : List S98).length : Nat) : Int) - 1) (by omega) (by simp at hl ⊢; omega)
    rw [h1, if_neg (by simp)]; rfl
  | q :: Q, R, A, hl => by
    have ih := up_ok A x Q R (A ++ [q]) (by simp at hl ⊢; omega)
    have hlen : (A ++ x :: (q :: Q ++ R)).length = A.length + Q.length + R.length + 2 := by simp; omega
    have el : A ++ x :: (q :: Q ++ R) = A ++ x :: ([] ++ q :: (Q ++ R)) := by simp
    have er : (A ++ [q]) ++ x :: (Q ++ R) = A ++ q :: ([] ++ x :: (Q ++ R)) := by simp
    have eg : (A ++ [q]) ++ (Q ++ x :: R) = A ++ (q :: Q ++ x :: R) := by simp
    rw [er, eg] at ih
    refine EvT.step (fun k => ?_) ih
    have h1 : Hid (wrap64 (((A.length + 1 + (q :: Q).length : Nat) : Int) - 1) = ((A.length + (q :: Q).length : Nat) : Int)) := by
      show _ = _
      rw [swn (x := ((A.length + 1 + (q :: Q).length : Nat) : Int) - 1) (by omega) (by rw [hlen] at hl; simp; omega)]; omega
    have h2 : Hid (wrap64 ((A.length : Nat) + 1 : Int) = ((A.length + 1 + ([] : List S98).length : Nat) : Int)) := by
      show _ = _
      rw [swn (by omega) (by rw [hlen] at hl; omega)]; simp
    simp only [money_rest_75.l1]
    rw [h1.out, if_pos (by rw [List.length_cons]; omega), h2.out, if_pos (by omega), if_pos (by rw [hlen]; simp; omega), if_pos (by omega), if_pos (by rw [hlen]; omega), Int.toNat_natCast, Int.toNat_natCast, el, exch]
    congr 1 <;> simp <;> omega
theorem exchD (A : List S98) (x y : S98) (D : List S98) : (((A ++ x :: y :: D).set (A.length + 1) ⟨(rd_T98 (A ++ x :: y :: D) (A.length : Int)).f0, (rd_T98 (A ++ x :: y :: D) (A.length : Int)).f1⟩).set A.length ⟨(rd_T98 (A ++ x :: y :: D) ((A.length + 1 : Nat) : Int)).f0, (rd_T98 (A ++ x :: y :: D) ((A.length + 1 : Nat) : Int)).f1⟩) = A ++ y :: x :: D := by
  have h := exch A x [] y D
  simp only [List.nil_append, List.length_nil, Nat.add_zero] at h
  rw [List.set_comm _ _ (by omega)]
  exact h
theorem down_ok (y : S98) : ∀ (n : Nat) (P R A : List S98), P.length = n → (A ++ (P ++ y :: R)).length < 100000 → EvT (fun k => money_rest_75.l3 k (A ++ (P ++ y :: R)) (A.length : Nat) ((A.length + P.length : Nat) : Int)) (A ++ y :: (P ++ R))
  | 0, P, R, A, hn, hl => by
    obtain rfl := List.length_eq_zero_iff.1 hn
    exact EvT.done fun k => by
      simp only [money_rest_75.l3]
      rw [if_neg (by simp)]; rfl
  | n + 1, P, R, A, hn, hl => by
    obtain ⟨P', p, rfl⟩ : ∃ P' p, P = P' ++ [p] := ⟨P.dropLast, P.getLast (by intro h; simp [h] at hn), (List.dropLast_concat_getLast _).symm⟩
    have hn' : P'.length = n := by simpa using hn
    have ih := down_ok y n P' (p :: R) A hn' (by simp at hl ⊢; omega)
    have hlen : (A ++ ((P' ++ [p]) ++ y :: R)).length = A.length + P'.length + R.length + 2 := by simp; omega
    have el : A ++ ((P' ++ [p]) ++ y :: R) = (A ++ P') ++ p :: y :: R := by simp
    have er : A ++ (P' ++ y :: p :: R) = (A ++ P') ++ y :: p :: R := by simp
    have eg : A ++ y :: (P' ++ p :: R) = A ++ y :: ((P' ++ [p]) ++ R) := by simp
    rw [er, eg] at ih
    refine EvT.step (fun k => ?_) ih
    have hpl : (P' ++ [p]).length = P'.length + 1 := by simp
    have h1 : Hid (wrap64 (((A.length + (P' ++ [p]).length : Nat) : Int) - 1) = ((A ++ P').length : Int)) := by
      show _ = _
      rw [swn (x := ((A.length + (P' ++ [p]).length : Nat) : Int) - 1) (by omega) (by rw [hlen] at hl; omega), hpl]
      have hap : (A ++ P').length = A.length + P'.length := List.length_append
      omega
    have h2 : ((A.length + (P' ++ [p]).length : Nat) : Int) = (((A ++ P').length + 1 : Nat) : Int) := by rw [hpl, List.length_append]; omega
    simp only [money_rest_75.l3]
    rw [h1.out, if_pos (by omega), if_pos (by omega), if_pos (by rw [hlen, List.length_append]; omega), if_pos (by omega), if_pos (by rw [hlen]; omega), h2, Int.toNat_natCast, Int.toNat_natCast, el, exchD]
    rw [List.length_append]
theorem sl0_ok (L : List S98) (a b : Nat) (ha : a < L.length) (hb : b ≤ L.length) (hl : L.length < 100000)
    (mono : ∀ t1 t2 (h1 : t1 < L.length) (h2 : t2 < L.length), a + 1 ≤ t1 → t1 ≤ t2 → t2 < b → L[a].f1 < L[t2].f1 → L[a].f1 < L[t1].f1) (hab : a + 1 ≤ b) :
    ∃ s, a + 1 ≤ s ∧ s ≤ b ∧ (∀ t (h : t < L.length), a + 1 ≤ t → t < s → L[a].f1 < L[t].f1) ∧ (∀ t (h : t < L.length), s ≤ t → t < b → ¬ L[a].f1 < L[t].f1) ∧ ∀ v, EvT (fun k => money_rest_75.l1 k L (s : Nat) (a : Nat)) v → EvT (fun k => money_rest_75.l0 k L (a : Nat) ((a + 1 : Nat) : Int) (b : Nat)) v := by
  refine (bsearch (fun k i j => money_rest_75.l0 k L (a : Nat) (i : Nat) (j : Nat)) (fun k s => money_rest_75.l1 k L (s : Nat) (a : Nat)) (fun t => ∃ h : t < L.length, L[a].f1 < L[t].f1) (a + 1) b (fun k i => ?_) (fun i j hi hij hj => ?_) (fun t1 t2 h1 h12 h2 ⟨hh, hp⟩ => ⟨by omega, mono t1 t2 (by omega) hh h1 h12 h2 hp⟩) b (a + 1) b (by omega) hab (Nat.le_refl _) (Nat.le_refl _) (fun t h1 h2 => by omega) (fun t h1 h2 => by omega)).imp (fun s ⟨hs1, hs2, g1, g2, g3⟩ => ?_)
  · simp only [money_rest_75.l0]; rw [if_neg (by omega)]
  · have hh : (i + j) / 2 < L.length := by omega
    have hm : Hid (wrap64 (IntKind.u64.wrap (wrap64 ((i : Int) + j)) / 2) = (((i + j) / 2 : Nat) : Int)) := hmid i j (by omega)
    obtain ⟨t, ht, hiff⟩ := cmp_ok L[(i + j) / 2] L[a]
    constructor
    · rintro ⟨_, hp⟩ k
      have ht0 := hiff.2 hp
      simp only [money_rest_75.l0]
      rw [if_pos (by omega), hm.out, if_pos (by omega), if_pos (by omega), if_pos (by omega), if_pos (by omega), rd98 _ _ hh, rd98 _ _ ha, ht, Option.bind_some, if_pos ht0, nx _ (by omega)]
    · intro hp k
      have ht0 : ¬ t < 0 := fun h => hp ⟨hh, hiff.1 h⟩
      simp only [money_rest_75.l0]
      rw [if_pos (by omega), hm.out, if_pos (by omega), if_pos (by omega), if_pos (by omega), if_pos (by omega), rd98 _ _ hh, rd98 _ _ ha, ht, Option.bind_some, if_neg ht0]
  · exact ⟨hs1, hs2, (fun t h a1 a2 => (g1 t a1 a2).2), (fun t h a1 a2 hp => g2 t a1 a2 ⟨h, hp⟩), g3⟩
theorem sl2_ok (L : List S98) (a m : Nat) (hm0 : m < L.length) (hl : L.length < 100000)
    (mono : ∀ t1 t2 (h1 : t1 < L.length) (h2 : t2 < L.length), a ≤ t1 → t1 ≤ t2 → t2 < m → ¬ L[t2].f1 < L[m].f1 → ¬ L[t1].f1 < L[m].f1) (ham : a ≤ m) :
    ∃ s, a ≤ s ∧ s ≤ m ∧ (∀ t (h : t < L.length), a ≤ t → t < s → ¬ L[t].f1 < L[m].f1) ∧ (∀ t (h : t < L.length), s ≤ t → t < m → L[t].f1 < L[m].f1) ∧ ∀ v, EvT (fun k => money_rest_75.l3 k L (s : Nat) (m : Nat)) v → EvT (fun k => money_rest_75.l2 k L (m : Nat) (a : Nat) (m : Nat)) v := by
  refine (bsearch (fun k i j => money_rest_75.l2 k L (m : Nat) (i : Nat) (j : Nat)) (fun k s => money_rest_75.l3 k L (s : Nat) (m : Nat)) (fun t => ∃ h : t < L.length, ¬ L[t].f1 < L[m].f1) a m (fun k i => ?_) (fun i j hi hij hj => ?_) (fun t1 t2 h1 h12 h2 ⟨hh, hp⟩ => ⟨by omega, mono t1 t2 (by omega) hh h1 h12 h2 hp⟩) m a m (by omega) ham (Nat.le_refl _) (Nat.le_refl _) (fun t h1 h2 => by omega) (fun t h1 h2 => by omega)).imp (fun s ⟨hs1, hs2, g1, g2, g3⟩ => ?_)
  · simp only [money_rest_75.l2]; rw [if_neg (by omega)]
  · have hh : (i + j) / 2 < L.length := by omega
    have hm : Hid (wrap64 (IntKind.u64.wrap (wrap64 ((i : Int) + j)) / 2) = (((i + j) / 2 : Nat) : Int)) := hmid i j (by omega)
    obtain ⟨t, ht, hiff⟩ := cmp_ok L[m] L[(i + j) / 2]
    constructor
    · rintro ⟨_, hp⟩ k
      have ht0 : ¬ t < 0 := fun h => hp (hiff.1 h)
      simp only [money_rest_75.l2]
      rw [if_pos (by omega), if_pos (by omega), if_pos (by omega), hm.out, if_pos (by omega), if_pos (by omega), rd98 _ _ hh, rd98 _ _ hm0, ht, Option.bind_some, if_neg ht0, nx _ (by omega)]
    · intro hp k
      have ht0 : t < 0 := hiff.2 (Classical.byContradiction fun h => hp ⟨hh, h⟩)
      simp only [money_rest_75.l2]
      rw [if_pos (by omega), if_pos (by omega), if_pos (by omega), hm.out, if_pos (by omega), if_pos (by omega), rd98 _ _ hh, rd98 _ _ hm0, ht, Option.bind_some, if_pos ht0]
  · exact ⟨hs1, hs2, (fun t h a1 a2 => (g1 t a1 a2).2), (fun t h a1 a2 => Classical.byContradiction fun hp => g2 t a1 a2 ⟨h, hp⟩), g3⟩
theorem sl4_ok (L : List S98) (a m b mid n p i0 j0 : Nat) (hp0 : p + 1 = n) (hl : L.length < 100000) (hj0 : j0 ≤ L.length) (hpl : ∀ t, i0 ≤ t → t < j0 → t ≤ p ∧ p - t < L.length) (hij0 : i0 ≤ j0)
    (mono : ∀ t1 t2 (h1 : t1 < L.length) (h2 : t2 < L.length) (h3 : p - t1 < L.length) (h4 : p - t2 < L.length), i0 ≤ t1 → t1 ≤ t2 → t2 < j0 → ¬ L[t2].f1 < L[p - t2].f1 → ¬ L[t1].f1 < L[p - t1].f1) :
    ∃ s, i0 ≤ s ∧ s ≤ j0 ∧ (∀ t (h : t < L.length) (h' : p - t < L.length), i0 ≤ t → t < s → ¬ L[t].f1 < L[p - t].f1) ∧ (∀ t (h : t < L.length) (h' : p - t < L.length), s ≤ t → t < j0 → L[t].f1 < L[p - t].f1) ∧ ∀ v, EvT (fun k => if ((s : Nat) : Int) < (m : Nat) then money_rest_75.j6 k L (a : Nat) (m : Nat) (b : Nat) (mid : Nat) (s : Nat) (wrap64 ((n : Nat) - (s : Nat))) (decide (((m : Nat) : Int) < wrap64 ((n : Nat) - (s : Nat)))) else money_rest_75.j6 k L (a : Nat) (m : Nat) (b : Nat) (mid : Nat) (s : Nat) (wrap64 ((n : Nat) - (s : Nat))) false) v → EvT (fun k => money_rest_75.l4 k L (a : Nat) (m : Nat) (b : Nat) (mid : Nat) (n : Nat) (i0 : Nat) (j0 : Nat) (p : Nat)) v := by
  refine (bsearch (fun k i j => money_rest_75.l4 k L (a : Nat) (m : Nat) (b : Nat) (mid : Nat) (n : Nat) (i : Nat) (j : Nat) (p : Nat)) (fun k s => if ((s : Nat) : Int) < (m : Nat) then money_rest_75.j6 k L (a : Nat) (m : Nat) (b : Nat) (mid : Nat) (s : Nat) (wrap64 ((n : Nat) - (s : Nat))) (decide (((m : Nat) : Int) < wrap64 ((n : Nat) - (s : Nat)))) else money_rest_75.j6 k L (a : Nat) (m : Nat) (b : Nat) (mid : Nat) (s : Nat) (wrap64 ((n : Nat) - (s : Nat))) false)
    (fun t => ∃ (h : t < L.length) (h' : p - t < L.length), ¬ L[t].f1 < L[p - t].f1) i0 j0 (fun k i => ?_) (fun i j hi hij hj => ?_) (fun t1 t2 h1 h12 h2 ⟨hh, hh', hp⟩ => ⟨by omega, (hpl t1 h1 (by omega)).2, mono t1 t2 (by omega) hh (hpl t1 h1 (by omega)).2 hh' h1 h12 h2 hp⟩) j0 i0 j0 (by omega) hij0 (Nat.le_refl _) (Nat.le_refl _) (fun t h1 h2 => by omega) (fun t h1 h2 => by omega)).imp (fun s ⟨hs1, hs2, g1, g2, g3⟩ => ?_)
  · simp only [money_rest_75.l4]; rw [if_neg (by omega)]
  · have hh : (i + j) / 2 < L.length := by omega
    obtain ⟨hc1, hc2⟩ := hpl ((i + j) / 2) (by omega) (by omega)
    have hm : Hid (wrap64 (IntKind.u64.wrap (wrap64 ((i : Int) + j)) / 2) = (((i + j) / 2 : Nat) : Int)) := hmid i j (by omega)
    have hq : Hid (wrap64 (((p : Nat) : Int) - (((i + j) / 2 : Nat) : Int)) = ((p - (i + j) / 2 : Nat) : Int)) := by
      show _ = _
      rw [swn (x := ((p : Nat) : Int) - (((i + j) / 2 : Nat) : Int)) (by omega) (by omega)]; omega
    obtain ⟨t, ht, hiff⟩ := cmp_ok L[p - (i + j) / 2] L[(i + j) / 2]
    constructor
    · rintro ⟨_, _, hp⟩ k
      have ht0 : ¬ t < 0 := fun h => hp (hiff.1 h)
      simp only [money_rest_75.l4]
      rw [if_pos (by omega), hm.out, hq.out, if_pos (by omega), if_pos (by omega), if_pos (by omega), if_pos (by omega), rd98 _ _ hh, rd98 _ _ hc2, ht, Option.bind_some, if_neg ht0, nx _ (by omega)]
    · intro hp k
      have ht0 : t < 0 := hiff.2 (Classical.byContradiction fun h => hp ⟨hh, hc2, h⟩)
      simp only [money_rest_75.l4]
      rw [if_pos (by omega), hm.out, hq.out, if_pos (by omega), if_pos (by omega), if_pos (by omega), if_pos (by omega), rd98 _ _ hh, rd98 _ _ hc2, ht, Option.bind_some, if_pos ht0]
  · exact ⟨hs1, hs2, (fun t h h' a1 a2 => (g1 t a1 a2).2.2), (fun t h h' a1 a2 => Classical.byContradiction fun hp => g2 t a1 a2 ⟨h, h', hp⟩), g3⟩
end Go.Proofs.Ytncnhhnbjmpomaa.Q
namespace Go.Proofs.Ytncnhhnbjmpomaa.Q
open Go.RowKit Go.Proofs.YtncnhhnbjmpomaaW.PrintWords Go.Proofs.Ytncnhhnbjmpomaa
set_option linter.unusedVariables false
set_option linter.unusedSimpArgs false
abbrev So (l : List S98) : Prop := l.Pairwise Ra
def Lo (P Q : List S98) : Prop := ∀ p ∈ P, ∀ q ∈ Q, p.f0 < q.f0
theorem Ra.le {x y : S98} (h : Ra x y) : y.f1 ≤ x.f1 := by rcases h with h | h <;> omega
theorem Ra.trans {x y z : S98} (h : Ra x y) (k : Ra y z) : Ra x z := by
  unfold Ra at *; omega
theorem So.get {l : List S98} (h : So l) (i j : Nat) (hj : j < l.length) (hij : i < j) : Ra (l[i]'(by omega)) l[j] := List.pairwise_iff_getElem.1 h i j (by omega) hj hij
theorem So.le {l : List S98} (h : So l) (i j : Nat) (hj : j < l.length) (hij : i ≤ j) : l[j].f1 ≤ (l[i]'(by omega)).f1 := by
  by_cases e : i = j
  · subst e; exact Int.le_refl _
  · exact (h.get i j hj (by omega)).le
theorem posP (A P Q B : List S98) (t : Nat) (h1 : A.length ≤ t) (h2 : t < A.length + P.length) : (A ++ (P ++ (Q ++ B)))[t]'(by simp; omega) = P[t - A.length]'(by omega) := by
  rw [List.getElem_append_right h1, List.getElem_append_left (by omega)]
theorem posQ (A P Q B : List S98) (t : Nat) (h1 : A.length + P.length ≤ t) (h2 : t < A.length + P.length + Q.length) : (A ++ (P ++ (Q ++ B)))[t]'(by simp; omega) = Q[t - A.length - P.length]'(by omega) := by
  rw [List.getElem_append_right (by omega), List.getElem_append_right (by omega), List.getElem_append_left (by omega)]
theorem pw_app {X Y : List S98} (hx : So X) (hy : So Y) (h : ∀ x ∈ X, ∀ y ∈ Y, Ra x y) : So (X ++ Y) := List.pairwise_append.2 ⟨hx, hy, h⟩
theorem ahead {X Y : List S98} (hx : So X) (hy : So Y) (h : ∀ (h1 : 0 < X.length) (h2 : 0 < Y.length), Ra (X[X.length - 1]'(by omega)) Y[0]) : ∀ x ∈ X, ∀ y ∈ Y, Ra x y := by
  intro x hxm y hym
  obtain ⟨i, hi, rfl⟩ := List.getElem_of_mem hxm
  obtain ⟨j, hj, rfl⟩ := List.getElem_of_mem hym
  have h0 := h (by omega) (by omega)
  have h1 : Ra X[i] Y[0] := by
    by_cases e : i = X.length - 1
    · subst e; exact h0
    · exact (hx.get i (X.length - 1) (by omega) (by omega)).trans h0
  by_cases e : j = 0
  · subst e; exact h1
  · exact h1.trans (hy.get 0 j hj (by omega))
theorem one_first (A : List S98) (x : S98) (Q B : List S98) (hq : So Q) (hlo : Lo [x] Q) (hl : (A ++ ([x] ++ (Q ++ B))).length < 100000) :
    ∃ M, M.Perm ([x] ++ Q) ∧ So M ∧ EvT (fun k => money_rest_75.l0 k (A ++ ([x] ++ (Q ++ B))) (A.length : Nat) ((A.length + 1 : Nat) : Int) ((A.length + 1 + Q.length : Nat) : Int)) (A ++ (M ++ B)) := by
  have hlen : (A ++ ([x] ++ (Q ++ B))).length = A.length + 1 + Q.length + B.length := by simp; omega
  have hx : (A ++ ([x] ++ (Q ++ B)))[A.length]'(by omega) = x := by rw [posP A [x] Q B A.length (by omega) (by simp)]; simp
  have hq' : ∀ t (h1 : A.length + 1 ≤ t) (h2 : t < A.length + 1 + Q.length), (A ++ ([x] ++ (Q ++ B)))[t]'(by omega) = Q[t - A.length - 1]'(by omega) := fun t h1 h2 => posQ A [x] Q B t h1 h2
  obtain ⟨s, s1, s2, g1, g2, g3⟩ := sl0_ok (A ++ ([x] ++ (Q ++ B))) A.length (A.length + 1 + Q.length) (by omega) (by omega) hl (fun t1 t2 h1 h2 a1 a12 a2 hp => by
    rw [hq' t1 a1 (by omega)]
    rw [hq' t2 (by omega) a2] at hp
    have := hq.le (t1 - A.length - 1) (t2 - A.length - 1) (by omega) (by omega)
    omega) (by omega)
  obtain ⟨q, rfl⟩ : ∃ q, s = A.length + 1 + q := ⟨s - A.length - 1, by omega⟩
  obtain ⟨Q1, Q2, rfl, hq1⟩ : ∃ Q1 Q2, Q = Q1 ++ Q2 ∧ Q1.length = q := ⟨Q.take q, Q.drop q, (List.take_append_drop _ _).symm, by rw [List.length_take]; omega⟩
  obtain ⟨w1, w2, w3⟩ := List.pairwise_append.1 hq
  have hQl : (Q1 ++ Q2).length = Q1.length + Q2.length := by simp
  have c1 : ∀ y ∈ Q1, Ra y x := by
    intro y hy
    obtain ⟨j, hj, rfl⟩ := List.getElem_of_mem hy
    have := g1 (A.length + 1 + j) (by omega) (by omega) (by omega)
    rw [hx, hq' _ (by omega) (by omega)] at this
    simp only [show A.length + 1 + j - A.length - 1 = j by omega] at this
    rw [List.getElem_append_left hj] at this
    exact .inl this
  have c2 : ∀ y ∈ Q2, Ra x y := by
    intro y hy
    have h0 := hlo x (by simp) y (by simp [hy])
    obtain ⟨j, hj, rfl⟩ := List.getElem_of_mem hy
    have := g2 (A.length + 1 + (q + j)) (by omega) (by omega) (by omega)
    rw [hx, hq' _ (by omega) (by omega)] at this
    simp only [show A.length + 1 + (q + j) - A.length - 1 = q + j by omega] at this
    rw [List.getElem_append_right (by omega)] at this
    simp only [show q + j - Q1.length = j by omega] at this
    unfold Ra; omega
  refine ⟨Q1 ++ ([x] ++ Q2), ?_, pw_app w1 (pw_app (List.pairwise_singleton _ _) w2 (fun a ha y hy => by rw [List.mem_singleton.1 ha]; exact c2 y hy)) (fun a ha y hy => by
    rcases List.mem_append.1 hy with h | h
    · rw [List.mem_singleton.1 h]; exact c1 a ha
    · exact w3 a ha y h), ?_⟩
  · have : (Q1 ++ ([x] ++ Q2)).Perm ([x] ++ (Q1 ++ Q2)) := by
      rw [← List.append_assoc, ← List.append_assoc]
      exact List.Perm.append_right _ List.perm_append_comm
    exact this
  · refine g3 _ ?_
    have := up_ok A x Q1 (Q2 ++ B) A (by simp at hl ⊢; omega)
    rw [hq1] at this
    simpa using this
theorem one_last (A P : List S98) (y : S98) (B : List S98) (hp : So P) (hlo : Lo P [y]) (hl : (A ++ (P ++ ([y] ++ B))).length < 100000) :
    ∃ M, M.Perm (P ++ [y]) ∧ So M ∧ EvT (fun k => money_rest_75.l2 k (A ++ (P ++ ([y] ++ B))) ((A.length + P.length : Nat) : Int) (A.length : Nat) ((A.length + P.length : Nat) : Int)) (A ++ (M ++ B)) := by
  have hlen : (A ++ (P ++ ([y] ++ B))).length = A.length + P.length + 1 + B.length := by simp; omega
  have hy : (A ++ (P ++ ([y] ++ B)))[A.length + P.length]'(by omega) = y := by rw [posQ A P [y] B _ (by omega) (by simp)]; simp
  have hp' : ∀ t (h1 : A.length ≤ t) (h2 : t < A.length + P.length), (A ++ (P ++ ([y] ++ B)))[t]'(by omega) = P[t - A.length]'(by omega) := fun t h1 h2 => posP A P [y] B t h1 h2
  obtain ⟨s, s1, s2, g1, g2, g3⟩ := sl2_ok (A ++ (P ++ ([y] ++ B))) A.length (A.length + P.length) (by omega) hl (fun t1 t2 h1 h2 a1 a12 a2 hh => by
    rw [hp' t1 a1 (by omega), hy]
    rw [hp' t2 (by omega) a2, hy] at hh
    have := hp.le (t1 - A.length) (t2 - A.length) (by omega) (by omega)
    omega) (by omega)
  obtain ⟨q, rfl⟩ : ∃ q, s = A.length + q := ⟨s - A.length, by omega⟩
  obtain ⟨P1, P2, rfl, hq1⟩ : ∃ P1 P2, P = P1 ++ P2 ∧ P1.length = q := ⟨P.take q, P.drop q, (List.take_append_drop _ _).symm, by rw [List.length_take]; omega⟩
  obtain ⟨w1, w2, w3⟩ := List.pairwise_append.1 hp
  have hPl : (P1 ++ P2).length = P1.length + P2.length := by simp
  have c1 : ∀ a ∈ P1, Ra a y := by
    intro a ha
    have h0 := hlo a (by simp [ha]) y (by simp)
    obtain ⟨j, hj, rfl⟩ := List.getElem_of_mem ha
    have := g1 (A.length + j) (by omega) (by omega) (by omega)
    rw [hy, hp' _ (by omega) (by omega)] at this
    simp only [show A.length + j - A.length = j by omega] at this
    rw [List.getElem_append_left hj] at this
    unfold Ra; omega
  have c2 : ∀ a ∈ P2, Ra y a := by
    intro a ha
    obtain ⟨j, hj, rfl⟩ := List.getElem_of_mem ha
    have := g2 (A.length + (q + j)) (by omega) (by omega) (by omega)
    rw [hy, hp' _ (by omega) (by omega)] at this
    simp only [show A.length + (q + j) - A.length = q + j by omega] at this
    rw [List.getElem_append_right (by omega)] at this
    simp only [show q + j - P1.length = j by omega] at this
    exact .inl this
  refine ⟨P1 ++ ([y] ++ P2), ?_, pw_app w1 (pw_app (List.pairwise_singleton _ _) w2 (fun a ha b hb => by rw [List.mem_singleton.1 ha]; exact c2 b hb)) (fun a ha b hb => by
    rcases List.mem_append.1 hb with h | h
    · rw [List.mem_singleton.1 h]; exact c1 a ha
    · exact w3 a ha b h), ?_⟩
  · rw [List.append_assoc]
    exact List.Perm.append_left _ List.perm_append_comm
  · refine g3 _ ?_
    have := down_ok y P2.length P2 B (A ++ P1) rfl (by simp at hl ⊢; omega)
    have e1 : (A ++ P1).length = A.length + q := by simp [hq1]
    have e2 : A.length + q + P2.length = A.length + (P1 ++ P2).length := by omega
    rw [e1, e2] at this
    simpa using this
theorem Lo.perm {P Q P' Q' : List S98} (h : Lo P Q) (hp : ∀ x ∈ P', x ∈ P) (hq : ∀ x ∈ Q', x ∈ Q) : Lo P' Q' := fun p hp' q hq' => h p (hp p hp') q (hq q hq')
set_option maxHeartbeats 4000000 in
theorem sym_ok : ∀ (n : Nat) (A P Q B : List S98), P.length + Q.length ≤ n → 0 < P.length → 0 < Q.length → So P → So Q → Lo P Q → (A ++ (P ++ (Q ++ B))).length < 100000 →
    ∃ M, M.Perm (P ++ Q) ∧ So M ∧ EvT (fun k => money_rest_75.f k (A ++ (P ++ (Q ++ B))) (A.length : Nat) ((A.length + P.length : Nat) : Int) ((A.length + P.length + Q.length : Nat) : Int) 52) (A ++ (M ++ B))
  | 0, A, P, Q, B, hn, hp0, hq0, hp, hq, hlo, hl => by omega
  | n + 1, A, P, Q, B, hn, hp0, hq0, hp, hq, hlo, hl => by
    have hlen : (A ++ (P ++ (Q ++ B))).length = A.length + P.length + Q.length + B.length := by simp; omega
    have d1 : Hid (wrap64 (((A.length + P.length : Nat) : Int) - (A.length : Nat)) = (P.length : Int)) := by
      show _ = _
      rw [swn (x := ((A.length + P.length : Nat) : Int) - (A.length : Nat)) (by omega) (by omega)]; omega
    have d2 : Hid (wrap64 (((A.length + P.length + Q.length : Nat) : Int) - ((A.length + P.length : Nat) : Int)) = (Q.length : Int)) := by
      show _ = _
      rw [swn (x := ((A.length + P.length + Q.length : Nat) : Int) - ((A.length + P.length : Nat) : Int)) (by omega) (by omega)]; omega
    by_cases h1 : P.length = 1
    · obtain ⟨x, rfl⟩ := List.length_eq_one_iff.1 h1
      obtain ⟨M, m1, m2, m3⟩ := one_first A x Q B hq hlo hl
      refine ⟨M, m1, m2, EvT.step (fun k => ?_) m3⟩
      simp only [money_rest_75.f]
      rw [d1.out, if_pos (by simp)]
      rfl
    by_cases h2 : Q.length = 1
    · obtain ⟨y, rfl⟩ := List.length_eq_one_iff.1 h2
      obtain ⟨M, m1, m2, m3⟩ := one_last A P y B hp hlo hl
      refine ⟨M, m1, m2, EvT.step (fun k => ?_) m3⟩
      simp only [money_rest_75.f]
      rw [d1.out, if_neg (by omega), d2.out, if_pos (by simp)]
    -- the general case
    obtain ⟨a, ha⟩ : ∃ a, a = A.length := ⟨_, rfl⟩
    obtain ⟨m, hm⟩ : ∃ m, m = A.length + P.length := ⟨_, rfl⟩
    obtain ⟨b, hb⟩ : ∃ b, b = A.length + P.length + Q.length := ⟨_, rfl⟩
    obtain ⟨mid, hmid1⟩ : ∃ mid, mid = (a + b) / 2 := ⟨_, rfl⟩
    have hP : ∀ t (h1 : a ≤ t) (h2 : t < m), (A ++ (P ++ (Q ++ B)))[t]'(by omega) = P[t - a]'(by omega) := fun t h1 h2 => by
      subst ha; exact posP A P Q B t h1 (by omega)
    have hQ : ∀ t (h1 : m ≤ t) (h2 : t < b), (A ++ (P ++ (Q ++ B)))[t]'(by omega) = Q[t - m]'(by omega) := fun t h1 h2 => by
      have := posQ A P Q B t (by omega) (by omega)
      rw [this]; congr 1; omega
    obtain ⟨i0, j0, hij, hcase⟩ : ∃ i0 j0, i0 ≤ j0 ∧ ((m > mid ∧ i0 = mid + m - b ∧ j0 = mid ∧ b ≤ mid + m ∧ a ≤ i0) ∨ (m ≤ mid ∧ i0 = a ∧ j0 = m)) := by
      by_cases h : m > mid
      · exact ⟨mid + m - b, mid, by omega, .inl ⟨h, rfl, rfl, by omega, by omega⟩⟩
      · exact ⟨a, m, by omega, .inr ⟨by omega, rfl, rfl⟩⟩
    obtain ⟨s, s1, s2, g1, g2, g3⟩ := sl4_ok (A ++ (P ++ (Q ++ B))) a m b mid (mid + m) (mid + m - 1) i0 j0 (by omega) hl (by omega) (fun t a1 a2 => by omega) hij (fun t1 t2 c1 c2 c3 c4 a1 a12 a2 hh => by
      rw [hP t1 (by omega) (by omega), hQ (mid + m - 1 - t1) (by omega) (by omega)]
      rw [hP t2 (by omega) (by omega), hQ (mid + m - 1 - t2) (by omega) (by omega)] at hh
      have e1 := hp.le (t1 - a) (t2 - a) (by omega) (by omega)
      have e2 := hq.le (mid + m - 1 - t2 - m) (mid + m - 1 - t1 - m) (by omega) (by omega)
      omega)
    obtain ⟨P1, P2, rfl, hP1⟩ : ∃ P1 P2, P = P1 ++ P2 ∧ P1.length = s - a := ⟨P.take (s - a), P.drop (s - a), (List.take_append_drop _ _).symm, by rw [List.length_take]; omega⟩
    obtain ⟨Q1, Q2, rfl, hQ1⟩ : ∃ Q1 Q2, Q = Q1 ++ Q2 ∧ Q1.length = mid - s := ⟨Q.take (mid - s), Q.drop (mid - s), (List.take_append_drop _ _).symm, by rw [List.length_take]; omega⟩
    have hPl : (P1 ++ P2).length = P1.length + P2.length := by simp
    have hQl : (Q1 ++ Q2).length = Q1.length + Q2.length := by simp
    obtain ⟨p1, p2, p3⟩ := List.pairwise_append.1 hp
    obtain ⟨q1, q2, q3⟩ := List.pairwise_append.1 hq
    have x1 : ∀ x ∈ P1, ∀ y ∈ Q2, Ra x y := ahead p1 q2 (fun h1 h2 => by
      have hlo1 := hlo P1[P1.length - 1] (by simp) Q2[0] (by simp)
      have hs : i0 < s := by omega
      have h := g1 (s - 1) (by omega) (by omega) (by omega) (by omega)
      rw [hP (s - 1) (by omega) (by omega), hQ (mid + m - 1 - (s - 1)) (by omega) (by omega)] at h
      rw [List.getElem_append_left (by omega), List.getElem_append_right (by omega)] at h
      simp only [show s - 1 - a = P1.length - 1 by omega, show mid + m - 1 - (s - 1) - m - Q1.length = 0 by omega] at h
      unfold Ra; omega)
    have x2 : ∀ x ∈ Q1, ∀ y ∈ P2, Ra x y := ahead q1 p2 (fun h1 h2 => by
      have hs : s < j0 := by omega
      have h := g2 s (by omega) (by omega) (by omega) (by omega)
      rw [hP s (by omega) (by omega), hQ (mid + m - 1 - s) (by omega) (by omega)] at h
      rw [List.getElem_append_right (by omega), List.getElem_append_left (by omega)] at h
      simp only [show s - a - P1.length = 0 by omega, show mid + m - 1 - s - m = Q1.length - 1 by omega] at h
      exact .inl h)
    have hL2 : (A ++ (P1 ++ (Q1 ++ (P2 ++ (Q2 ++ B))))).length < 100000 := by simp at hl ⊢; omega
    -- the left part
    obtain ⟨M1, l1, l2, l3⟩ : ∃ M1, M1.Perm (P1 ++ Q1) ∧ So M1 ∧ (0 < P1.length → 0 < Q1.length → EvT (fun k => money_rest_75.f k (A ++ (P1 ++ (Q1 ++ (P2 ++ (Q2 ++ B))))) (a : Nat) (s : Nat) (mid : Nat) 52) (A ++ (M1 ++ (P2 ++ (Q2 ++ B))))) ∧ (¬ (0 < P1.length ∧ 0 < Q1.length) → M1 = P1 ++ Q1) := by
      by_cases h : 0 < P1.length ∧ 0 < Q1.length
      · obtain ⟨M, m1, m2, m3⟩ := sym_ok n A P1 Q1 (P2 ++ (Q2 ++ B)) (by omega) h.1 h.2 p1 q1 (hlo.perm (fun x hx => by simp [hx]) (fun x hx => by simp [hx])) hL2
        refine ⟨M, m1, m2, fun _ _ => ?_, fun hc => absurd h hc⟩
        rw [show A.length = a by omega, show a + P1.length = s by omega, show s + Q1.length = mid by omega] at m3
        exact m3
      · refine ⟨P1 ++ Q1, List.Perm.refl _, ?_, fun a1 a2 => absurd ⟨a1, a2⟩ h, fun _ => rfl⟩
        refine pw_app p1 q1 (fun x hx y hy => ?_)
        have := List.length_pos_of_mem hx
        have := List.length_pos_of_mem hy
        exact absurd ⟨by omega, by omega⟩ h
    have hM1 : M1.length = P1.length + Q1.length := by rw [l1.length_eq]; simp
    have hL3 : ((A ++ M1) ++ (P2 ++ (Q2 ++ B))).length < 100000 := by simp at hl ⊢; omega
    obtain ⟨M2, r1, r2, r3⟩ : ∃ M2, M2.Perm (P2 ++ Q2) ∧ So M2 ∧ (0 < P2.length → 0 < Q2.length → EvT (fun k => money_rest_75.f k ((A ++ M1) ++ (P2 ++ (Q2 ++ B))) (mid : Nat) ((mid + m - s : Nat) : Int) (b : Nat) 52) ((A ++ M1) ++ (M2 ++ B))) ∧ (¬ (0 < P2.length ∧ 0 < Q2.length) → M2 = P2 ++ Q2) := by
      by_cases h : 0 < P2.length ∧ 0 < Q2.length
      · obtain ⟨M, m1, m2, m3⟩ := sym_ok n (A ++ M1) P2 Q2 B (by omega) h.1 h.2 p2 q2 (hlo.perm (fun x hx => by simp [hx]) (fun x hx => by simp [hx])) hL3
        refine ⟨M, m1, m2, fun _ _ => ?_, fun hc => absurd h hc⟩
        have e0 : (A ++ M1).length = mid := by rw [List.length_append]; omega
        rw [e0, show mid + P2.length = mid + m - s by omega, show mid + m - s + Q2.length = b by omega] at m3
        exact m3
      · refine ⟨P2 ++ Q2, List.Perm.refl _, ?_, fun a1 a2 => absurd ⟨a1, a2⟩ h, fun _ => rfl⟩
        refine pw_app p2 q2 (fun x hx y hy => ?_)
        have := List.length_pos_of_mem hx
        have := List.length_pos_of_mem hy
        exact absurd ⟨by omega, by omega⟩ h
    refine ⟨M1 ++ M2, ?_, ?_, ?_⟩
    · have h := l1.append r1
      refine h.trans ?_
      have : ((P1 ++ Q1) ++ (P2 ++ Q2)).Perm ((P1 ++ P2) ++ (Q1 ++ Q2)) := by
        simp only [List.append_assoc]
        refine List.Perm.append_left _ ?_
        rw [← List.append_assoc, ← List.append_assoc]
        exact List.Perm.append_right _ List.perm_append_comm
      exact this
    · refine pw_app l2 r2 (fun x hx y hy => ?_)
      rcases List.mem_append.1 (l1.mem_iff.1 hx) with h | h <;> rcases List.mem_append.1 (r1.mem_iff.1 hy) with k | k
      · exact p3 x h y k
      · exact x1 x h y k
      · exact x2 x h y k
      · exact q3 x h y k
    · have hmb : m < 100000 ∧ b < 100000 ∧ mid < 100000 := by omega
      have hsm : s ≤ m := by omega
      have hse : s ≤ mid + m := by omega
      clear g1 g2 x1 x2 p1 p2 p3 q1 q2 q3 hP hQ hp hq
      -- the right part
      have E2 : EvT (fun k => if ((mid : Nat) : Int) < ((mid + m - s : Nat) : Int) then (if ((mid + m - s : Nat) : Int) < (b : Nat) then (money_rest_75.f k ((A ++ M1) ++ (P2 ++ (Q2 ++ B))) (mid : Nat) ((mid + m - s : Nat) : Int) (b : Nat) 52).bind fun t => some t else some ((A ++ M1) ++ (P2 ++ (Q2 ++ B)))) else some ((A ++ M1) ++ (P2 ++ (Q2 ++ B)))) (A ++ ((M1 ++ M2) ++ B)) := by
        by_cases h1 : 0 < P2.length
        · by_cases h2 : 0 < Q2.length
          · refine EvT.congr (fun k => ?_) (EvT.bind (F := fun k t => some t) (r3.1 h1 h2) (EvT.congr (fun k => ?_) (EvT.const _)))
            · rw [if_pos (by omega), if_pos (by omega)]
            · simp
          · refine EvT.congr (fun k => ?_) (EvT.const _)
            rw [if_pos (by omega), if_neg (by omega), r3.2 (fun h => h2 h.2)]
            simp
        · refine EvT.congr (fun k => ?_) (EvT.const _)
          rw [if_neg (by omega), r3.2 (fun h => h1 h.1)]
          simp
      have EN : ¬ (0 < P1.length ∧ 0 < Q1.length) → EvT (fun k => money_rest_75.j8 k (A ++ (P1 ++ (Q1 ++ (P2 ++ (Q2 ++ B))))) (a : Nat) (b : Nat) (mid : Nat) (s : Nat) ((mid + m - s : Nat) : Int) false) (A ++ ((M1 ++ M2) ++ B)) := fun hno => by
        refine EvT.step (fun k => ?_) E2
        simp only [money_rest_75.j8]
        rw [if_neg (by decide), l3.2 hno]
        simp only [List.append_assoc]
      have E7 : EvT (fun k => money_rest_75.j7 k (A ++ (P1 ++ (Q1 ++ (P2 ++ (Q2 ++ B))))) (a : Nat) (b : Nat) (mid : Nat) (s : Nat) ((mid + m - s : Nat) : Int)) (A ++ ((M1 ++ M2) ++ B)) := by
        by_cases h1 : 0 < P1.length
        · by_cases h2 : 0 < Q1.length
          · have e : decide (((s : Nat) : Int) < (mid : Nat)) = true := decide_eq_true (by omega)
            refine EvT.step (g := fun k => money_rest_75.j8 k (A ++ (P1 ++ (Q1 ++ (P2 ++ (Q2 ++ B))))) (a : Nat) (b : Nat) (mid : Nat) (s : Nat) ((mid + m - s : Nat) : Int) true) (fun k => ?_) (EvT.step (fun k => ?_) (EvT.bind (F := fun k t141 => if ((mid : Nat) : Int) < ((mid + m - s : Nat) : Int) then (if ((mid + m - s : Nat) : Int) < (b : Nat) then (money_rest_75.f k t141 (mid : Nat) ((mid + m - s : Nat) : Int) (b : Nat) 52).bind fun t142 => some t142 else some t141) else some t141) (l3.1 h1 h2) ?_))
            · simp only [money_rest_75.j7]
              rw [if_pos (by omega), e]
            · simp only [money_rest_75.j8]
              rw [if_pos trivial]
            · rw [← List.append_assoc A M1]
              exact E2
          · have e : decide (((s : Nat) : Int) < (mid : Nat)) = false := decide_eq_false (by omega)
            refine EvT.step (fun k => ?_) (EN (fun h => h2 h.2))
            simp only [money_rest_75.j7]
            rw [if_pos (by omega), e]
        · refine EvT.step (fun k => ?_) (EN (fun h => h1 h.1))
          simp only [money_rest_75.j7]
          rw [if_neg (by omega)]
      have w1 : Hid (wrap64 (((mid + m : Nat) : Int) - (s : Nat)) = ((mid + m - s : Nat) : Int)) := by
        show _ = _
        rw [swn (x := ((mid + m : Nat) : Int) - (s : Nat)) (by omega) (by omega)]; omega
      have E6 : EvT (fun k => money_rest_75.l4 k (A ++ ((P1 ++ P2) ++ ((Q1 ++ Q2) ++ B))) (a : Nat) (m : Nat) (b : Nat) (mid : Nat) ((mid + m : Nat) : Int) (i0 : Nat) (j0 : Nat) ((mid + m - 1 : Nat) : Int)) (A ++ ((M1 ++ M2) ++ B)) := by
        refine g3 _ ?_
        by_cases h1 : 0 < P2.length
        · by_cases h2 : 0 < Q1.length
          · have e : decide (((m : Nat) : Int) < ((mid + m - s : Nat) : Int)) = true := decide_eq_true (by omega)
            have hr := rot_ok (A ++ P1) P2 Q1 (Q2 ++ B) 52 h1 h2 (by simp at hl ⊢; omega)
            have e0 : (A ++ P1).length = s := by rw [List.length_append]; omega
            rw [e0, show s + P2.length = m by omega, show m + Q1.length = mid + m - s by omega] at hr
            refine EvT.congr (fun k => ?_) (EvT.step (g := fun k => (money_rest_82.f k ((A ++ P1) ++ (P2 ++ (Q1 ++ (Q2 ++ B)))) (s : Nat) (m : Nat) ((mid + m - s : Nat) : Int) 52).bind fun t140 => money_rest_75.j7 k t140 (a : Nat) (b : Nat) (mid : Nat) (s : Nat) ((mid + m - s : Nat) : Int)) (f := fun k => money_rest_75.j6 k (A ++ ((P1 ++ P2) ++ ((Q1 ++ Q2) ++ B))) (a : Nat) (m : Nat) (b : Nat) (mid : Nat) (s : Nat) ((mid + m - s : Nat) : Int) true) (fun k => ?_) (EvT.bind (F := fun k t140 => money_rest_75.j7 k t140 (a : Nat) (b : Nat) (mid : Nat) (s : Nat) ((mid + m - s : Nat) : Int)) hr ?_))
            · rw [if_pos (by omega), w1.out, e]
            · simp only [money_rest_75.j6]
              rw [if_pos trivial]
              simp only [List.append_assoc]
            · simp only [List.append_assoc] at E7 ⊢
              exact E7
          · have e : decide (((m : Nat) : Int) < ((mid + m - s : Nat) : Int)) = false := decide_eq_false (by omega)
            have hq0 : Q1 = [] := List.length_eq_zero_iff.1 (by omega)
            refine EvT.congr (fun k => ?_) (EvT.step (f := fun k => money_rest_75.j6 k (A ++ ((P1 ++ P2) ++ ((Q1 ++ Q2) ++ B))) (a : Nat) (m : Nat) (b : Nat) (mid : Nat) (s : Nat) ((mid + m - s : Nat) : Int) false) (fun k => ?_) E7)
            · rw [if_pos (by omega), w1.out, e]
            · simp only [money_rest_75.j6]
              rw [if_neg (by decide), hq0]
              simp only [List.append_assoc, List.nil_append]
        · have hp0 : P2 = [] := List.length_eq_zero_iff.1 (by omega)
          refine EvT.congr (fun k => ?_) (EvT.step (f := fun k => money_rest_75.j6 k (A ++ ((P1 ++ P2) ++ ((Q1 ++ Q2) ++ B))) (a : Nat) (m : Nat) (b : Nat) (mid : Nat) (s : Nat) ((mid + m - s : Nat) : Int) false) (fun k => ?_) E7)
          · rw [if_neg (by omega), w1.out]
          · simp only [money_rest_75.j6]
            rw [if_neg (by decide), hp0]
            simp only [List.append_assoc, List.nil_append]
      have w2 : Hid (wrap64 (IntKind.u64.wrap (wrap64 ((A.length : Int) + ((A.length + (P1 ++ P2).length + (Q1 ++ Q2).length : Nat) : Int))) / 2) = (mid : Nat)) := by
        show _ = _
        rw [hmid _ _ (by omega)]; omega
      have w3 : Hid (wrap64 (((mid : Nat) : Int) + ((A.length + (P1 ++ P2).length : Nat) : Int)) = ((mid + m : Nat) : Int)) := by
        show _ = _
        rw [swn (x := ((mid : Nat) : Int) + ((A.length + (P1 ++ P2).length : Nat) : Int)) (by omega) (by omega)]; omega
      have w5 : Hid (wrap64 (((mid + m : Nat) : Int) - 1) = ((mid + m - 1 : Nat) : Int)) := by
        show _ = _
        rw [swn (x := ((mid + m : Nat) : Int) - 1) (by omega) (by omega)]; omega
      have f1 : ¬ ((P1 ++ P2).length : Int) = 1 := by omega
      have f2 : ¬ ((Q1 ++ Q2).length : Int) = 1 := by omega
      refine EvT.step (g := fun k => money_rest_75.j4 k (A ++ ((P1 ++ P2) ++ ((Q1 ++ Q2) ++ B))) (a : Nat) (m : Nat) (b : Nat) (mid : Nat) ((mid + m : Nat) : Int) (i0 : Nat) (j0 : Nat)) (fun k => ?_) (EvT.step (fun k => ?_) E6)
      · simp only [money_rest_75.f]
        rw [d1.out, if_neg f1, d2.out, if_neg f2, w2.out, w3.out]
        rcases hcase with ⟨c1, c2, c3, c4, c5⟩ | ⟨c1, c2, c3⟩
        · have w4 : Hid (wrap64 (((mid + m : Nat) : Int) - ((A.length + (P1 ++ P2).length + (Q1 ++ Q2).length : Nat) : Int)) = (i0 : Nat)) := by
            show _ = _
            rw [swn (x := ((mid + m : Nat) : Int) - ((A.length + (P1 ++ P2).length + (Q1 ++ Q2).length : Nat) : Int)) (by omega) (by omega)]; omega
          rw [if_pos (by omega), w4.out, ← hb, ← hm, ← ha, c3]
        · rw [if_neg (by omega), ← hb, ← hm, ← ha, c2, c3]
      · simp only [money_rest_75.j4]
        rw [w5.out]
end Go.Proofs.Ytncnhhnbjmpomaa.Q
namespace Go.Proofs.Ytncnhhnbjmpomaa.Q
open Go.RowKit Go.Proofs.YtncnhhnbjmpomaaW.PrintWords Go.Proofs.YtncnhhnbjmpomaaW.PrintLast Go.Proofs.YtncnhhnbjmpomaaW.PrintMore
attribute [local go_sem] max2_int min2_int max_two min_two max_three min_three max_four min_four   -- for this text's walks alone
set_option linter.unusedVariables false
set_option linter.unusedSimpArgs false
mutual
def money_rest_74.l0 : Nat → List (S98) → Int → Int → Int → Option ((List (S98)))
 | 0, _, _, _, _ => none
 | k + 1, x0, x1, x2, x8 => if x8 < x2 then (money_rest_74.l1 k x0 x1 x2 x8 x8) else (some x0)
def money_rest_74.l1 : Nat → List (S98) → Int → Int → Int → Int → Option ((List (S98)))
 | 0, _, _, _, _, _ => none
 | k + 1, x0, x1, x2, x8, x9 => if x9 > x1 then (if 0 ≤ x9 then (if x9 < (x0.length : Int) then (if 0 ≤ (wrap64 (x9 - 1)) then (if (wrap64 (x9 - 1)) < (x0.length : Int) then ((money_Split_2.f ((rd_T98 x0 x9).f0) ((rd_T98 x0 x9).f1) ((rd_T98 x0 (wrap64 (x9 - 1))).f0) ((rd_T98 x0 (wrap64 (x9 - 1))).f1)).bind fun t111 => (if t111 < 0 then (money_rest_74.l1 k ((x0.set (x9 : Int).toNat (⟨(rd_T98 x0 (wrap64 (x9 - 1))).f0, (rd_T98 x0 (wrap64 (x9 - 1))).f1⟩ : S98)).set ((wrap64 (x9 - 1)) : Int).toNat (⟨(rd_T98 x0 x9).f0, (rd_T98 x0 x9).f1⟩ : S98)) x1 x2 x8 (wrap64 (x9 - 1))) else (money_rest_74.l0 k x0 x1 x2 (wrap64 (x8 + 1))))) else (none)) else (none)) else (none)) else (none)) else (money_rest_74.l0 k x0 x1 x2 (wrap64 (x8 + 1)))
end
def money_rest_74.f (k : Nat) (l0 : List (S98)) (a1 : Int) (a2 : Int) (a3 : Nat) : Option ((List (S98))) := money_rest_74.l0 k l0 a1 a2 (wrap64 (a1 + 1))
def money_rest_74.T4 : Bool × List (List Nat × List Nat) := (true, [([], []), ([], []), ([0, 1], [0, 1]), ([2], [2]), ([3], [3]), ([3], [3]), ([3], [3]), ([5, 6, 3], [3, 5, 6]), ([7, 3], [3, 7]), ([3], [3]), ([3], [3]), ([10, 3], [3, 10]), ([9, 11, 3], [3, 9, 11]), ([12, 3], [3, 12]), ([4, 8, 13, 3, 3], [3, 4, 8, 13]), ([14, 3], [3, 14]), ([3, 15], [3, 15])])
def money_rest_74.B4 : List Nat := [0, 0, 3, 7, 15, 15, 15, 111, 239, 15, 15, 1039, 3599, 7695, 16383, 32767, 65535]
theorem money_rest_74.tab4 : rtab .any (opsOf Try.f74 4) = money_rest_74.T4 := by kernel_rfl
theorem money_rest_74.bits4 : waitsOk money_rest_74.T4.2 money_rest_74.B4 = true := by kernel_rfl
def money_rest_74.T6 : Bool × List (List Nat × List Nat) := (true, [([], []), ([], []), ([], []), ([], []), ([3], [3]), ([], []), ([], []), ([6], [6]), ([5, 7], [5, 7]), ([8], [8]), ([], []), ([], []), ([10, 11], [10, 11]), ([12], [12]), ([0, 1, 0, 1, 5, 6, 7, 8, 9, 13], [0, 1]), ([14, 9, 0, 1, 5, 6, 7, 8, 9, 13], [9, 14]), ([2, 4, 0, 1, 2, 3, 4, 5, 6, 7, 8, 9, 10, 11, 12, 13, 14, 15], [2, 4]), ([16, 13, 15, 0, 1, 2, 3, 4, 5, 6, 7, 8, 9, 10, 11, 12, 13, 14, 15], [13, 16])])
def money_rest_74.B6 : List Nat := [0, 0, 0, 0, 8, 0, 0, 64, 224, 480, 0, 0, 3072, 7168, 16355, 32739, 65535, 131071]
theorem money_rest_74.tab6 : rtab .any (opsOf Try.f74 6) = money_rest_74.T6 := by kernel_rfl
theorem money_rest_74.bits6 : waitsOk money_rest_74.T6.2 money_rest_74.B6 = true := by kernel_rfl
set_option maxHeartbeats 8000000 in
set_option maxRecDepth 100000 in
theorem money_rest_74.calls (k : Nat) (P0_ : Nat → Prop) (u9000_ : Value) (l0 : List (S98)) (a1 : Int) (a2 : Int) (a3 : Nat) (r : List (S98)) (w0 w : World) (hB : Below w0.heap.size w0 w) (ho0 : Kd.R k98 98 w w0.heap.size P0_ u9000_ l0) (h : money_rest_74.f k l0 a1 a2 a3 = some r) :
  Calls Try.prog 74 #[u9000_, .int .i64 a1, .int .i64 a2, .func (.func 52) #[] #[]] w fun e w' => e = .returned (.tuple #[]) ∧ Kd.R k98 98 w' w0.heap.size (fun k_ => (P0_ k_ ∨ w.heap.size ≤ k_)) u9000_ r ∧ Below w0.heap.size w0 w' ∧ Kept w w' (fun k_ => P0_ k_) := by
 have hu98 := Try.underlying98
 have HO0 := Aside0.mk (show Kd.R k98 98 w w0.heap.size (fun k_ => (P0_ k_ ∨ w.heap.size ≤ k_)) u9000_ l0 from Kd.R_mono ho0 (fun k_ hk => (.inl hk)))
 have HK := Aside0.mk (Kept.refl w (fun k_ => P0_ k_))
 have HW0 := Aside0.mk hB.size
 have HB := Aside0.mk hB
 clear hB
 have H : (money_rest_74.l0 k l0 a1 a2 (wrap64 (a1 + 1))) = some r := h
 clear h
 have H' := Aside0.mk H
 clear H
 go_enter Try.func74, Try.ntmps74
 go_wp2
 go_loopg [8] k (fun kq v8 w' => ∃ (x0_1 : List (S98)) (x8_1 : Int), v8 = .int .i64 x8_1 ∧ Aside0 (money_rest_74.l0 kq x0_1 a1 a2 x8_1 = some r) ∧ Aside0 (kq ≤ k) ∧ Aside0 (Kd.R k98 98 w' w0.heap.size (fun k_ => (P0_ k_ ∨ w.heap.size ≤ k_)) u9000_ x0_1) ∧ Aside0 (Kept w w' (fun k_ => P0_ k_)) ∧ Aside0 (Below w0.heap.size w0 w'))
 case atStart => exact ⟨(l0), (wrap64 (a1 + 1)), (by first | rfl | (simp; done) | (simp [*]; done)), H', ⟨Nat.le_refl _⟩, ⟨by (with_reducible repeat (first | apply Kd.R_alloc | apply Kd.R_drewN | apply Kd.R_drew)); exact HO0.out⟩, ⟨by repeat (first | (with_reducible first | exact HK.out | apply Kept.alloc | apply Kept.drewN | apply Kept.drew) | exact HK.out)⟩, ⟨by repeat (first | (with_reducible first | exact HB.out | apply below_alloc | apply pw_below_drewN | apply below_drew1) | exact HB.out)⟩⟩
 case round =>
  clear H'
  try clear p2
  obtain ⟨x0_1, x8_1, rfl, HA, HK1, HO_0, HK, HB⟩ := hrel
  cases gk with
  | zero => exact absurd HA.out (by simp [money_rest_74.l0])
  | succ k1 =>
   have H := HA.out
   clear HA
   simp only [money_rest_74.l0] at H
   by_cases c5 : x8_1 < a2
   ·rw [if_pos c5] at H
    have c5b0 : decide (x8_1 < a2) = true := decide_eq_true c5
    clear c5
    have H' := Aside0.mk H
    clear H
    go_wp2
    go_loopg [9] k1 (fun kq v9 w' => ∃ (x0_2 : List (S98)) (x9_2 : Int), v9 = .int .i64 x9_2 ∧ Aside0 (money_rest_74.l1 kq x0_2 a1 a2 x8_1 x9_2 = some r) ∧ Aside0 (kq ≤ k1) ∧ Aside0 (Kd.R k98 98 w' w0.heap.size (fun k_ => (P0_ k_ ∨ w.heap.size ≤ k_)) u9000_ x0_2) ∧ Aside0 (Kept w w' (fun k_ => P0_ k_)) ∧ Aside0 (Below w0.heap.size w0 w'))
    case atStart => exact ⟨(x0_1), (x8_1), (by first | rfl | (simp; done) | (simp [*]; done)), H', ⟨Nat.le_refl _⟩, ⟨by (with_reducible repeat (first | apply Kd.R_alloc | apply Kd.R_drewN | apply Kd.R_drew)); exact HO_0.out⟩, ⟨by repeat (first | (with_reducible first | exact HK.out | apply Kept.alloc | apply Kept.drewN | apply Kept.drew) | exact HK.out)⟩, ⟨by repeat (first | (with_reducible first | exact HB.out | apply below_alloc | apply pw_below_drewN | apply below_drew1) | exact HB.out)⟩⟩
    case round =>
     clear H'
     try clear p2
     try clear c5
     try clear c5b0
     try clear p2
     obtain ⟨x0_2, x9_2, rfl, HA, HK2, HO_0, HK, HB⟩ := hrel
     cases gk with
     | zero => exact absurd HA.out (by simp [money_rest_74.l1])
     | succ k2 =>
      have H := HA.out
      clear HA
      simp only [money_rest_74.l1] at H
      by_cases c6 : x9_2 > a1
      ·rw [if_pos c6] at H
       have c6b0 : decide (a1 < x9_2) = true := decide_eq_true c6
       clear c6
       by_cases c7 : 0 ≤ x9_2
       ·rw [if_pos c7] at H
        have c7b0 : decide (0 ≤ x9_2) = true := decide_eq_true c7
        clear c7
        by_cases c8 : x9_2 < (x0_2.length : Int)
        ·rw [if_pos c8] at H
         have c8b0 : decide (x9_2 < (x0_2.length : Int)) = true := decide_eq_true c8
         clear c8
         obtain ⟨ji9, hji9⟩ : ∃ j_ : Int, (wrap64 (x9_2 - 1)) = j_ := ⟨_, rfl⟩
         replace H : (if 0 ≤ (ji9) then (if (ji9) < (x0_2.length : Int) then ((money_Split_2.f ((rd_T98 x0_2 x9_2).f0) ((rd_T98 x0_2 x9_2).f1) ((rd_T98 x0_2 (ji9)).f0) ((rd_T98 x0_2 (ji9)).f1)).bind fun t111 => (if t111 < 0 then (money_rest_74.l1 k2 ((x0_2.set (x9_2 : Int).toNat (⟨(rd_T98 x0_2 (ji9)).f0, (rd_T98 x0_2 (ji9)).f1⟩ : S98)).set ((ji9) : Int).toNat (⟨(rd_T98 x0_2 x9_2).f0, (rd_T98 x0_2 x9_2).f1⟩ : S98)) a1 a2 x8_1 ji9) else (money_rest_74.l0 k2 x0_2 a1 a2 (wrap64 (x8_1 + 1))))) else (none)) else (none)) = some r := by first | (rw [hji9] at H; exact H) | (simp only [hji9] at H ⊢; exact H)
         have hji9w : (IntKind.i64.wrap (x9_2 - 1)) = ji9 := (i64_w _).trans hji9
         by_cases c10 : 0 ≤ (ji9)
         ·rw [if_pos c10] at H
          have c10b0 : decide (0 ≤ (ji9)) = true := decide_eq_true c10
          clear c10
          by_cases c11 : (ji9) < (x0_2.length : Int)
          ·rw [if_pos c11] at H
           have c11b0 : decide ((ji9) < (x0_2.length : Int)) = true := decide_eq_true c11
           clear c11
           replace H := Option.bind_eq_some_iff.mp H
           obtain ⟨t111, A120, H⟩ := H
           replace H : (if t111 < 0 then (money_rest_74.l1 k2 ((x0_2.set (x9_2 : Int).toNat (⟨(rd_T98 x0_2 (ji9)).f0, (rd_T98 x0_2 (ji9)).f1⟩ : S98)).set ((ji9) : Int).toNat (⟨(rd_T98 x0_2 x9_2).f0, (rd_T98 x0_2 x9_2).f1⟩ : S98)) a1 a2 x8_1 ji9) else (money_rest_74.l0 k2 x0_2 a1 a2 (wrap64 (x8_1 + 1)))) = some r := H
           have A12 := Aside0.mk A120
           clear A120
           by_cases c13 : t111 < 0
           ·rw [if_pos c13] at H
            have c13b0 : decide (t111 < 0) = true := decide_eq_true c13
            clear c13
            obtain ⟨y114, hy114⟩ : ∃ y_ : List (S98), y_ = (x0_2.set (x9_2 : Int).toNat (⟨(rd_T98 x0_2 (ji9)).f0, (rd_T98 x0_2 (ji9)).f1⟩ : S98)) := ⟨_, rfl⟩
            replace H : (money_rest_74.l1 k2 (y114.set ((ji9) : Int).toNat (⟨(rd_T98 x0_2 x9_2).f0, (rd_T98 x0_2 x9_2).f1⟩ : S98)) a1 a2 x8_1 ji9) = some r := by first | (rw [hy114]; with_reducible exact H) | (have H2_ := (Option.bind_some _ _).symm.trans H; rw [hy114]; with_reducible exact H2_) | (have H2_ := (Option.bind_some _ _).symm.trans H; with_reducible exact H2_) | with_reducible exact H | (rw [hy114]; exact H) | exact H
            have Ny114 := Aside0.mk hy114
            clear hy114
            obtain ⟨y115, hy115⟩ : ∃ y_ : List (S98), y_ = (y114.set ((ji9) : Int).toNat (⟨(rd_T98 x0_2 x9_2).f0, (rd_T98 x0_2 x9_2).f1⟩ : S98)) := ⟨_, rfl⟩
            replace H : (money_rest_74.l1 k2 y115 a1 a2 x8_1 ji9) = some r := by first | (rw [hy115]; with_reducible exact H) | (have H2_ := (Option.bind_some _ _).symm.trans H; rw [hy115]; with_reducible exact H2_) | (have H2_ := (Option.bind_some _ _).symm.trans H; with_reducible exact H2_) | with_reducible exact H | (rw [hy115]; exact H) | exact H
            have Ny115 := Aside0.mk hy115
            clear hy115
            have H' := Aside0.mk H
            clear H
            try go_wp2
            have n0_ := Aside0.mk (Kd.R_drew HO_0.out)
            have n1_ := Aside0.mk (Kept.drew HK.out)
            have n2_ := Aside0.mk (below_drew1 HB.out)
            clear HO_0
            clear HK
            clear HB
            have HO_0 := n0_
            have HK := n1_
            have HB := n2_
            clear n0_ n1_ n2_
            obtain ⟨Ao17, co17, eo17⟩ := Kd.R_slice HO_0.out
            (first | subst eo17 | (injection eo17 with f1_ f2_ f3_; have f4_ := f1_.symm; have f5_ := f3_.symm; clear f1_ f2_ f3_; subst f4_; subst f5_))
            have p109 : 0 ≤ (x9_2 : Int) := of_decide_eq_true (by first | (with_reducible assumption) | assumption)
            have q109 : x9_2 < (x0_2.length : Int) := of_decide_eq_true (by first | (with_reducible assumption) | assumption)
            obtain ⟨ad109, e109, hx109_0, hx109_1⟩ := at_T98 (Kd.R_reads' HO_0.out).2.2 x9_2 p109 q109
            cases e109
            replace p109 := eq_true p109
            replace q109 := eq_true q109
            have p110 : 0 ≤ ((ji9) : Int) := of_decide_eq_true (by first | (with_reducible assumption) | assumption)
            have q110 : (ji9) < (x0_2.length : Int) := of_decide_eq_true (by first | (with_reducible assumption) | assumption)
            obtain ⟨ad110, e110, hx110_0, hx110_1⟩ := at_T98 (Kd.R_reads' HO_0.out).2.2 (ji9) p110 q110
            obtain rfl : ad109 = ad110 := (by injection e110)
            replace p110 := eq_true p110
            replace q110 := eq_true q110
            refine start_ (n := 17) (S := fun w' => w'.cell? (ad109.add ((x9_2).toNat * 2)) = some (.int .i64 ((rd_T98 x0_2 x9_2).f0)) ∧ w'.cell? ⟨(ad109.add ((x9_2).toNat * 2)).block, (ad109.add ((x9_2).toNat * 2)).off + 1, none⟩ = some (.int .u64 ((rd_T98 x0_2 x9_2).f1)) ∧ w'.cell? (ad109.add (((ji9)).toNat * 2)) = some (.int .i64 ((rd_T98 x0_2 (ji9)).f0)) ∧ w'.cell? ⟨(ad109.add (((ji9)).toNat * 2)).block, (ad109.add (((ji9)).toNat * 2)).off + 1, none⟩ = some (.int .u64 ((rd_T98 x0_2 (ji9)).f1))) (ds := []) #[false, false, false, false, false, false, false, false, false, false, false, false, false, false, false, false, false] (by kernel_rfl) rfl rfl ⟨hx109_0, hx109_1, hx110_0, hx110_1⟩ (fun hHeld => ?_); refine with_tabW money_rest_74.tab4 money_rest_74.bits4 (fun HT_ HW_ => ?_)
            generalize wr.drew = w16 at HO_0 HK HB hx109_0 hx109_1 hx110_0 hx110_1 hHeld ⊢
            refine pure_ (i := 0) (N := some 18) (v := ?_) (a' := ?_) #[true, false, false, false, false, false, false, false, false, false, false, false, false, false, false, false, false] rfl rfl (any_of HT_.out (by kernel_rfl)) (fun _ _ _ h => h) (Or.inl ⟨by rfl, ?_⟩) ?_ ?_
            rotate_left
            ·intro w'
             go_simp
             with_reducible rfl
            rotate_left
            ·simp only [Act.put, List.setIfInBounds_toArray, List.set_cons_zero, List.set_cons_succ, i64_w, i32_w]
             rfl
            refine pure_ (i := 1) (N := some 19) (v := ?_) (a' := ?_) #[true, true, false, false, false, false, false, false, false, false, false, false, false, false, false, false, false] rfl rfl (any_of HT_.out (by kernel_rfl)) (fun _ _ _ h => h) (Or.inl ⟨by rfl, ?_⟩) ?_ ?_
            rotate_left
            ·intro w'
             go_simp
             with_reducible rfl
            rotate_left
            ·simp only [Act.put, List.setIfInBounds_toArray, List.set_cons_zero, List.set_cons_succ, i64_w, i32_w]
             rfl
            refine pure_ (i := 2) (N := some 20) (v := ?_) (a' := ?_) #[true, true, true, false, false, false, false, false, false, false, false, false, false, false, false, false, false] rfl rfl (any_of HT_.out (by kernel_rfl)) (fun _ _ _ h => h) (Or.inl ⟨by rfl, ?_⟩) ?_ ?_
            rotate_left
            ·intro w'
             go_simp
             with_reducible rfl
            rotate_left
            ·simp only [Act.put, List.setIfInBounds_toArray, List.set_cons_zero, List.set_cons_succ, i64_w, i32_w]
             rfl
            refine pure_ (i := 3) (N := some 21) (v := ?_) (a' := ?_) #[true, true, true, true, false, false, false, false, false, false, false, false, false, false, false, false, false] rfl rfl (any_of HT_.out (by kernel_rfl)) (fun _ _ _ h => h) (Or.inl ⟨by rfl, ?_⟩) ?_ ?_
            rotate_left
            ·intro w'
             go_simp
             with_reducible rfl
            rotate_left
            ·simp only [Act.put, List.setIfInBounds_toArray, List.set_cons_zero, List.set_cons_succ, i64_w, i32_w]
             rfl
            refine pure_ (i := 4) (N := some 22) (v := ?_) (a' := ?_) #[true, true, true, true, true, false, false, false, false, false, false, false, false, false, false, false, false] rfl rfl (any_of HT_.out (by kernel_rfl)) (fun _ _ _ h => h) (Or.inl ⟨by rfl, ?_⟩) ?_ ?_
            rotate_left
            ·intro w'
             go_simp
             with_reducible rfl
            rotate_left
            ·simp only [Act.put, List.setIfInBounds_toArray, List.set_cons_zero, List.set_cons_succ, i64_w, i32_w]
             rfl
            refine pure_ (i := 5) (N := some 23) (v := ?_) (a' := ?_) #[true, true, true, true, true, true, false, false, false, false, false, false, false, false, false, false, false] rfl rfl (any_of HT_.out (by kernel_rfl)) (fun _ _ _ h => h) (Or.inl ⟨by rfl, ?_⟩) ?_ ?_
            rotate_left
            ·intro w'
             go_simp
             with_reducible rfl
            rotate_left
            ·simp only [Act.put, List.setIfInBounds_toArray, List.set_cons_zero, List.set_cons_succ, i64_w, i32_w]
             rfl
            refine pure_ (i := 6) (N := some 24) (v := ?_) (a' := ?_) #[true, true, true, true, true, true, true, false, false, false, false, false, false, false, false, false, false] rfl rfl (any_of HT_.out (by kernel_rfl)) (fun _ _ _ h => h) (Or.inl ⟨by rfl, ?_⟩) ?_ ?_
            rotate_left
            ·intro w'
             go_simp
             with_reducible rfl
            rotate_left
            ·simp only [Act.put, List.setIfInBounds_toArray, List.set_cons_zero, List.set_cons_succ, i64_w, i32_w]
             rfl
            refine pure_ (i := 7) (N := some 25) (v := ?_) (a' := ?_) #[true, true, true, true, true, true, true, true, false, false, false, false, false, false, false, false, false] rfl rfl (any_of HT_.out (by kernel_rfl)) (fun _ _ _ h => h) (Or.inl ⟨by rfl, ?_⟩) ?_ ?_
            rotate_left
            ·intro w'
             go_simp
             with_reducible rfl
            rotate_left
            ·simp only [Act.put, List.setIfInBounds_toArray, List.set_cons_zero, List.set_cons_succ, i64_w, i32_w]
             rfl
            refine pure_ (i := 9) (N := some 27) (v := ?_) (a' := ?_) #[true, true, true, true, true, true, true, true, false, true, false, false, false, false, false, false, false] rfl rfl (any_of HT_.out (by kernel_rfl)) (fun _ _ _ h => h) (Or.inl ⟨by rfl, ?_⟩) ?_ ?_
            rotate_left
            ·intro w'
             go_simp
             with_reducible rfl
            rotate_left
            ·simp only [Act.put, List.setIfInBounds_toArray, List.set_cons_zero, List.set_cons_succ, i64_w, i32_w]
             rfl
            refine pure_ (i := 10) (N := some 28) (v := ?_) (a' := ?_) #[true, true, true, true, true, true, true, true, false, true, true, false, false, false, false, false, false] rfl rfl (any_of HT_.out (by kernel_rfl)) (fun _ _ _ h => h) (Or.inl ⟨by rfl, ?_⟩) ?_ ?_
            rotate_left
            ·intro w'
             go_simp
             with_reducible rfl
            rotate_left
            ·simp only [Act.put, List.setIfInBounds_toArray, List.set_cons_zero, List.set_cons_succ, i64_w, i32_w]
             rfl
            refine pure_ (i := 11) (N := some 29) (v := ?_) (a' := ?_) #[true, true, true, true, true, true, true, true, false, true, true, true, false, false, false, false, false] rfl rfl (any_of HT_.out (by kernel_rfl)) (fun _ _ _ h => h) (Or.inl ⟨by rfl, ?_⟩) ?_ ?_
            rotate_left
            ·intro w'
             go_simp
             with_reducible rfl
            rotate_left
            ·simp only [Act.put, List.setIfInBounds_toArray, List.set_cons_zero, List.set_cons_succ, i64_w, i32_w]
             rfl
            refine pure_ (i := 12) (N := some 30) (v := ?_) (a' := ?_) #[true, true, true, true, true, true, true, true, false, true, true, true, true, false, false, false, false] rfl rfl (any_of HT_.out (by kernel_rfl)) (fun _ _ _ h => h) (Or.inl ⟨by rfl, ?_⟩) ?_ ?_
            rotate_left
            ·intro w'
             go_simp
             with_reducible rfl
            rotate_left
            ·simp only [Act.put, List.setIfInBounds_toArray, List.set_cons_zero, List.set_cons_succ, i64_w, i32_w]
             rfl
            refine take_ (i := 8) (N := some 26) (v := ?_) (a' := ?_) #[true, true, true, true, true, true, true, true, true, true, true, true, true, false, false, false, false] rfl rfl (take_ofW HT_.out HW_.out (by kernel_rfl)) (fun _ _ _ h => h) (Or.inl ⟨by rfl, ?_⟩) hHeld ?_ ?_
            rotate_left
            ·rintro w' ⟨s0, s1, s2, s3⟩
             go_simp
             with_reducible rfl
            rotate_left
            ·simp only [Act.put, List.setIfInBounds_toArray, List.set_cons_zero, List.set_cons_succ, i64_w, i32_w]
             rfl
            refine take_ (i := 13) (N := some 31) (v := ?_) (a' := ?_) #[true, true, true, true, true, true, true, true, true, true, true, true, true, true, false, false, false] rfl rfl (take_ofW HT_.out HW_.out (by kernel_rfl)) (fun _ _ _ h => h) (Or.inl ⟨by rfl, ?_⟩) hHeld ?_ ?_
            rotate_left
            ·rintro w' ⟨s0, s1, s2, s3⟩
             go_simp
             with_reducible rfl
            rotate_left
            ·simp only [Act.put, List.setIfInBounds_toArray, List.set_cons_zero, List.set_cons_succ, i64_w, i32_w]
             rfl
            refine one_ (i := 14) (N := some 32) #[true, true, true, true, true, true, true, true, true, true, true, true, true, true, true, false, false] rfl rfl (one_of HT_.out (by kernel_rfl)) (by decide) (fun K hK => ?_)
            refine goesV_ Try.func52 (by kernel_rfl) rfl #[.agg #[.int .i64 ((rd_T98 x0_2 x9_2).f0), .int .u64 ((rd_T98 x0_2 x9_2).f1)], .agg #[.int .i64 ((rd_T98 x0_2 (ji9)).f0), .int .u64 ((rd_T98 x0_2 (ji9)).f1)]] (by rfl) rfl rfl (by (try simp only [List.map_toArray, List.map_cons, List.map_nil]); first | done | (simp only [hji9]; rfl) | rfl | (simp only [List.length_drop, List.length_take]; rfl)) (by first | rfl | go_simp) ?_
            with_reducible refine (money_Split_2.calls ((rd_T98 x0_2 x9_2).f0) ((rd_T98 x0_2 x9_2).f1) ((rd_T98 x0_2 (ji9)).f0) ((rd_T98 x0_2 (ji9)).f1) t111 _ A12.out).mono ?_
            rintro e w18 ⟨rfl, hb⟩
            have HS0_ := (hb.cell (World.block_lt_of_cell? _ _ (hHeld.1))).trans (hHeld.1)
            have HS1_ := (hb.cell (World.block_lt_of_cell? _ _ (hHeld.2.1))).trans (hHeld.2.1)
            have HS2_ := (hb.cell (World.block_lt_of_cell? _ _ (hHeld.2.2.1))).trans (hHeld.2.2.1)
            have HS3_ := (hb.cell (World.block_lt_of_cell? _ _ (hHeld.2.2.2))).trans (hHeld.2.2.2)
            refine ⟨_, rfl, ?_⟩
            have n0_ := Aside0.mk (Kd.R_below (by (with_reducible repeat (first | apply Kd.R_alloc | apply Kd.R_drewN | apply Kd.R_drew)); exact HO_0.out) hb)
            have n1_ := Aside0.mk (Kept.below (S := (fun k_ => P0_ k_)) (by repeat (first | (with_reducible first | exact HK.out | apply Kept.alloc | apply Kept.drewN | apply Kept.drew) | exact HK.out)) hb)
            have n2_ := Aside0.mk (below_step (by repeat (first | (with_reducible first | exact HB.out | apply below_alloc | apply pw_below_drewN | apply below_drew1) | exact HB.out)) hb)
            clear HO_0
            clear HK
            clear HB
            have HO_0 := n0_
            have HK := n1_
            have HB := n2_
            clear n0_ n1_ n2_
            (try clear hb)
            (try clear hb2)
            (try clear hk)
            (try clear hi)
            refine hK.out _ _ ⟨HS0_, HS1_, HS2_, HS3_⟩ (fun hHeld => ?_)
            clear hK K
            refine norm_ (a' := ?_) ?_ ?_
            rotate_left
            ·show Act.put _ (some 32) _ = _
             simp only [Act.put, List.setIfInBounds_toArray, List.set_cons_zero, List.set_cons_succ, i64_w, i32_w]
             rfl
            refine pure_ (i := 15) (N := some 33) (v := ?_) (a' := ?_) #[true, true, true, true, true, true, true, true, true, true, true, true, true, true, true, true, false] rfl rfl (any_of HT_.out (by kernel_rfl)) (fun _ _ _ h => h) (Or.inl ⟨by rfl, ?_⟩) ?_ ?_
            rotate_left
            ·intro w'
             go_simp
             with_reducible rfl
            rotate_left
            ·simp only [Act.put, List.setIfInBounds_toArray, List.set_cons_zero, List.set_cons_succ, i64_w, i32_w]
             rfl
            refine pure_ (i := 16) (N := some 34) (v := ?_) (a' := ?_) #[true, true, true, true, true, true, true, true, true, true, true, true, true, true, true, true, true] rfl rfl (any_of HT_.out (by kernel_rfl)) (fun _ _ _ h => h) (Or.inl ⟨by rfl, ?_⟩) ?_ ?_
            rotate_left
            ·intro w'
             go_simp
             with_reducible rfl
            rotate_left
            ·simp only [Act.put, List.setIfInBounds_toArray, List.set_cons_zero, List.set_cons_succ, i64_w, i32_w]
             rfl
            refine done_ (done_of HT_.out (by kernel_rfl)) ?_
            try go_wp2
            have n0_ := Aside0.mk (Kd.R_drew HO_0.out)
            have n1_ := Aside0.mk (Kept.drew HK.out)
            have n2_ := Aside0.mk (below_drew1 HB.out)
            clear HO_0
            clear HK
            clear HB
            have HO_0 := n0_
            have HK := n1_
            have HB := n2_
            clear n0_ n1_ n2_
            have p112 : 0 ≤ ((ji9) : Int) := of_decide_eq_true (by first | (with_reducible assumption) | assumption)
            have q112 : (ji9) < (x0_2.length : Int) := of_decide_eq_true (by first | (with_reducible assumption) | assumption)
            obtain ⟨ad112, e112, hx112_0, hx112_1⟩ := at_T98 (Kd.R_reads' HO_0.out).2.2 (ji9) p112 q112
            obtain rfl : ad109 = ad112 := (by injection e112)
            replace p112 := eq_true p112
            replace q112 := eq_true q112
            have p113 : 0 ≤ (x9_2 : Int) := of_decide_eq_true (by first | (with_reducible assumption) | assumption)
            have q113 : x9_2 < (x0_2.length : Int) := of_decide_eq_true (by first | (with_reducible assumption) | assumption)
            obtain ⟨ad113, e113, hx113_0, hx113_1⟩ := at_T98 (Kd.R_reads' HO_0.out).2.2 x9_2 p113 q113
            obtain rfl : ad109 = ad113 := (by injection e113)
            replace p113 := eq_true p113
            replace q113 := eq_true q113
            have p14 : 0 ≤ (x9_2 : Int) := of_decide_eq_true (by first | (with_reducible assumption) | assumption)
            have q14 : (x9_2 : Int) < ((x0_2.length : Int) : Int) := of_decide_eq_true (by first | (with_reducible assumption) | assumption)
            obtain ⟨go14, co14, eo14, gb14, gl14, cl14, HG14⟩ := Kd.R_form HO_0.out (by omega)
            (first | cases eo14 | (injection eo14 with ea_ en_ ec_; (first | subst ea_ | (injection ea_ with ea_; subst ea_)); subst ec_; clear en_))
            have GB14 := Aside0.mk gb14
            have GG14 := Aside0.mk HG14
            clear gb14 gl14 HG14
            have HMgo14 := Aside0.mk (show (P0_ go14 ∨ w.heap.size ≤ go14) from (HO_0.out.1 _ rfl))
            (first | simp only [add_plain] at hx109_0 | skip)
            (first | simp only [add_plain] at hx109_1 | skip)
            (first | simp only [add_plain] at hx110_0 | skip)
            (first | simp only [add_plain] at hx110_1 | skip)
            (first | simp only [add_plain] at hx112_0 | skip)
            (first | simp only [add_plain] at hx112_1 | skip)
            (first | simp only [add_plain] at hx113_0 | skip)
            (first | simp only [add_plain] at hx113_1 | skip)
            obtain ⟨ce14, hcl14, hM14, hcc14, hfr14⟩ := Kd.R_elem HO_0.out z98 (x9_2 : Int) p14 q14
            obtain rfl := k98_openM hM14
            have hx14_0 : World.cell? _ ⟨go14, (x9_2 : Int).toNat * 2, none⟩ = some (.int .i64 ((rd_T98 x0_2 x9_2).f0)) := hcc14 0 _ rfl
            have hx14_1 : World.cell? _ ⟨go14, (x9_2 : Int).toNat * 2 + 1, none⟩ = some (.int .u64 ((rd_T98 x0_2 x9_2).f1)) := hcc14 1 _ rfl
            have hf14_0 : World.frozen? _ ⟨go14, (x9_2 : Int).toNat * 2, none⟩ = false := hfr14 0
            have hf14_1 : World.frozen? _ ⟨go14, (x9_2 : Int).toNat * 2 + 1, none⟩ = false := hfr14 1
            clear hcl14 hcc14 hfr14 hM14
            replace p14 := eq_true p14
            replace q14 := eq_true q14
            obtain ⟨ce20, hcl20, hM20, hcc20, hfr20⟩ := Kd.R_elem HO_0.out z98 (x9_2 : Int) (of_decide_eq_true (by first | (with_reducible assumption) | assumption)) (by have h_ : (x9_2 : Int) < ((x0_2.length : Int) : Int) := of_decide_eq_true (by first | (with_reducible assumption) | assumption); first | exact h_ | (have e_ := (Kd.R_reads' HO_0.out).1; omega) | simpa using h_)
            obtain rfl := k98_openM hM20
            have HP20 := (Kd.R_seg HO_0.out (x9_2 : Int) (of_decide_eq_true (by first | (with_reducible assumption) | assumption)) (by have h_ : (x9_2 : Int) < ((x0_2.length : Int) : Int) := of_decide_eq_true (by first | (with_reducible assumption) | assumption); first | exact h_ | (have e_ := (Kd.R_reads' HO_0.out).1; omega) | simpa using h_) (seg := [.int .i64 ((rd_T98 x0_2 (ji9)).f0), .int .u64 ((rd_T98 x0_2 (ji9)).f1)]) (j := 0) hcl20 hcc20 (show 2 ≤ 2 from by decide) (x' := (⟨(rd_T98 x0_2 (ji9)).f0, (rd_T98 x0_2 (ji9)).f1⟩ : S98)) (k98_mkM _ _ _ (⟨(rd_T98 x0_2 (ji9)).f0, (rd_T98 x0_2 (ji9)).f1⟩ : S98) ) (fun _ hk => hk)).1
            rw [← Ny114.out] at HP20
            have HQ20 := Aside0.mk HP20
            clear hcl20 hcc20 hfr20 hM20 HP20
            have p15 : 0 ≤ ((ji9) : Int) := of_decide_eq_true (by first | (with_reducible assumption) | assumption)
            have q15 : ((ji9) : Int) < ((x0_2.length : Int) : Int) := of_decide_eq_true (by first | (with_reducible assumption) | assumption)
            obtain ⟨ce15, hcl15, hM15, hcc15, hfr15⟩ := Kd.R_elem HQ20.out z98 ((ji9) : Int) p15 q15
            obtain rfl := k98_openM hM15
            have hx15_0 : World.cell? _ ⟨go14, ((ji9) : Int).toNat * 2, none⟩ = some (.int .i64 ((rd_T98 y114 (ji9)).f0)) := hcc15 0 _ rfl
            have hx15_1 : World.cell? _ ⟨go14, ((ji9) : Int).toNat * 2 + 1, none⟩ = some (.int .u64 ((rd_T98 y114 (ji9)).f1)) := hcc15 1 _ rfl
            have hf15_0 : World.frozen? _ ⟨go14, ((ji9) : Int).toNat * 2, none⟩ = false := hfr15 0
            have hf15_1 : World.frozen? _ ⟨go14, ((ji9) : Int).toNat * 2 + 1, none⟩ = false := hfr15 1
            clear hcl15 hcc15 hfr15 hM15
            replace p15 := eq_true p15
            replace q15 := eq_true q15
            obtain ⟨ce21, hcl21, hM21, hcc21, hfr21⟩ := Kd.R_elem HQ20.out z98 ((ji9) : Int) (of_decide_eq_true (by first | (with_reducible assumption) | assumption)) (by have h_ : ((ji9) : Int) < ((x0_2.length : Int) : Int) := of_decide_eq_true (by first | (with_reducible assumption) | assumption); first | exact h_ | (have e_ := (Kd.R_reads' HO_0.out).1; omega) | simpa using h_)
            obtain rfl := k98_openM hM21
            have HP21 := (Kd.R_seg HQ20.out ((ji9) : Int) (of_decide_eq_true (by first | (with_reducible assumption) | assumption)) (by have h_ : ((ji9) : Int) < ((x0_2.length : Int) : Int) := of_decide_eq_true (by first | (with_reducible assumption) | assumption); first | exact h_ | (have e_ := (Kd.R_reads' HO_0.out).1; omega) | simpa using h_) (seg := [.int .i64 ((rd_T98 x0_2 x9_2).f0), .int .u64 ((rd_T98 x0_2 x9_2).f1)]) (j := 0) hcl21 hcc21 (show 2 ≤ 2 from by decide) (x' := (⟨(rd_T98 x0_2 x9_2).f0, (rd_T98 x0_2 x9_2).f1⟩ : S98)) (k98_mkM _ _ _ (⟨(rd_T98 x0_2 x9_2).f0, (rd_T98 x0_2 x9_2).f1⟩ : S98) ) (fun _ hk => hk)).1
            rw [← Ny115.out] at HP21
            have HQ21 := Aside0.mk HP21
            clear hcl21 hcc21 hfr21 hM21 HP21
            refine start_ (n := 18) (S := fun w' => w'.cell? ⟨go14, ((ji9)).toNat * 2, none⟩ = some (.int .i64 ((rd_T98 x0_2 (ji9)).f0)) ∧ w'.cell? ⟨go14, ((ji9)).toNat * 2 + 1, none⟩ = some (.int .u64 ((rd_T98 x0_2 (ji9)).f1)) ∧ w'.cell? ⟨go14, ((x9_2).toNat * 2), none⟩ = some (.int .i64 ((rd_T98 x0_2 x9_2).f0)) ∧ w'.cell? ⟨go14, ((x9_2).toNat * 2) + 1, none⟩ = some (.int .u64 ((rd_T98 x0_2 x9_2).f1))) (ds := [15, 17]) #[false, false, false, false, false, false, false, false, false, false, false, false, false, false, false, false, false, false] (by kernel_rfl) rfl rfl ⟨hx112_0, hx112_1, hx113_0, hx113_1⟩ (fun hHeld => ?_); refine with_tabW money_rest_74.tab6 money_rest_74.bits6 (fun HT_ HW_ => ?_)
            generalize w18.drew = w19 at HO_0 HK HB GG14 HQ20 HQ21 hf14_0 hf14_1 hf15_0 hf15_1 hx109_0 hx109_1 hx110_0 hx110_1 hx112_0 hx112_1 hx113_0 hx113_1 hx14_0 hx14_1 hx15_0 hx15_1 hHeld ⊢
            refine pure_ (i := 0) (N := some 37) (v := ?_) (a' := ?_) #[true, false, false, false, false, false, false, false, false, false, false, false, false, false, false, false, false, false] rfl rfl (any_of HT_.out (by kernel_rfl)) (fun _ _ _ h => h) (Or.inl ⟨by rfl, ?_⟩) ?_ ?_
            rotate_left
            ·intro w'
             go_simp
             with_reducible rfl
            rotate_left
            ·simp only [Act.put, List.setIfInBounds_toArray, List.set_cons_zero, List.set_cons_succ, i64_w, i32_w]
             rfl
            refine pure_ (i := 1) (N := some 38) (v := ?_) (a' := ?_) #[true, true, false, false, false, false, false, false, false, false, false, false, false, false, false, false, false, false] rfl rfl (any_of HT_.out (by kernel_rfl)) (fun _ _ _ h => h) (Or.inl ⟨by rfl, ?_⟩) ?_ ?_
            rotate_left
            ·intro w'
             go_simp
             with_reducible rfl
            rotate_left
            ·simp only [Act.put, List.setIfInBounds_toArray, List.set_cons_zero, List.set_cons_succ, i64_w, i32_w]
             rfl
            refine pure_ (i := 2) (N := some 39) (v := ?_) (a' := ?_) #[true, true, true, false, false, false, false, false, false, false, false, false, false, false, false, false, false, false] rfl rfl (any_of HT_.out (by kernel_rfl)) (fun _ _ _ h => h) (Or.inl ⟨by rfl, ?_⟩) ?_ ?_
            rotate_left
            ·intro w'
             go_simp
             with_reducible rfl
            rotate_left
            ·simp only [Act.put, List.setIfInBounds_toArray, List.set_cons_zero, List.set_cons_succ, i64_w, i32_w]
             rfl
            refine pure_ (i := 3) (N := some 40) (v := ?_) (a' := ?_) #[true, true, true, true, false, false, false, false, false, false, false, false, false, false, false, false, false, false] rfl rfl (any_of HT_.out (by kernel_rfl)) (fun _ _ _ h => h) (Or.inl ⟨by rfl, ?_⟩) ?_ ?_
            rotate_left
            ·intro w'
             go_simp
             with_reducible rfl
            rotate_left
            ·simp only [Act.put, List.setIfInBounds_toArray, List.set_cons_zero, List.set_cons_succ, i64_w, i32_w]
             rfl
            refine pure_ (i := 4) (N := some 41) (v := ?_) (a' := ?_) #[true, true, true, true, true, false, false, false, false, false, false, false, false, false, false, false, false, false] rfl rfl (any_of HT_.out (by kernel_rfl)) (fun _ _ _ h => h) (Or.inl ⟨by rfl, ?_⟩) ?_ ?_
            rotate_left
            ·intro w'
             go_simp
             with_reducible rfl
            rotate_left
            ·simp only [Act.put, List.setIfInBounds_toArray, List.set_cons_zero, List.set_cons_succ, i64_w, i32_w]
             rfl
            refine pure_ (i := 5) (N := some 42) (v := ?_) (a' := ?_) #[true, true, true, true, true, true, false, false, false, false, false, false, false, false, false, false, false, false] rfl rfl (any_of HT_.out (by kernel_rfl)) (fun _ _ _ h => h) (Or.inl ⟨by rfl, ?_⟩) ?_ ?_
            rotate_left
            ·intro w'
             go_simp
             with_reducible rfl
            rotate_left
            ·simp only [Act.put, List.setIfInBounds_toArray, List.set_cons_zero, List.set_cons_succ, i64_w, i32_w]
             rfl
            refine pure_ (i := 6) (N := some 43) (v := ?_) (a' := ?_) #[true, true, true, true, true, true, true, false, false, false, false, false, false, false, false, false, false, false] rfl rfl (any_of HT_.out (by kernel_rfl)) (fun _ _ _ h => h) (Or.inl ⟨by rfl, ?_⟩) ?_ ?_
            rotate_left
            ·intro w'
             go_simp
             with_reducible rfl
            rotate_left
            ·simp only [Act.put, List.setIfInBounds_toArray, List.set_cons_zero, List.set_cons_succ, i64_w, i32_w]
             rfl
            refine pure_ (i := 7) (N := some 44) (v := ?_) (a' := ?_) #[true, true, true, true, true, true, true, true, false, false, false, false, false, false, false, false, false, false] rfl rfl (any_of HT_.out (by kernel_rfl)) (fun _ _ _ h => h) (Or.inl ⟨by rfl, ?_⟩) ?_ ?_
            rotate_left
            ·intro w'
             go_simp
             with_reducible rfl
            rotate_left
            ·simp only [Act.put, List.setIfInBounds_toArray, List.set_cons_zero, List.set_cons_succ, i64_w, i32_w]
             rfl
            refine pure_ (i := 8) (N := some 45) (v := ?_) (a' := ?_) #[true, true, true, true, true, true, true, true, true, false, false, false, false, false, false, false, false, false] rfl rfl (any_of HT_.out (by kernel_rfl)) (fun _ _ _ h => h) (Or.inl ⟨by rfl, ?_⟩) ?_ ?_
            rotate_left
            ·intro w'
             go_simp
             with_reducible rfl
            rotate_left
            ·simp only [Act.put, List.setIfInBounds_toArray, List.set_cons_zero, List.set_cons_succ, i64_w, i32_w]
             rfl
            refine pure_ (i := 10) (N := some 47) (v := ?_) (a' := ?_) #[true, true, true, true, true, true, true, true, true, false, true, false, false, false, false, false, false, false] rfl rfl (any_of HT_.out (by kernel_rfl)) (fun _ _ _ h => h) (Or.inl ⟨by rfl, ?_⟩) ?_ ?_
            rotate_left
            ·intro w'
             go_simp
             with_reducible rfl
            rotate_left
            ·simp only [Act.put, List.setIfInBounds_toArray, List.set_cons_zero, List.set_cons_succ, i64_w, i32_w]
             rfl
            refine pure_ (i := 11) (N := some 48) (v := ?_) (a' := ?_) #[true, true, true, true, true, true, true, true, true, false, true, true, false, false, false, false, false, false] rfl rfl (any_of HT_.out (by kernel_rfl)) (fun _ _ _ h => h) (Or.inl ⟨by rfl, ?_⟩) ?_ ?_
            rotate_left
            ·intro w'
             go_simp
             with_reducible rfl
            rotate_left
            ·simp only [Act.put, List.setIfInBounds_toArray, List.set_cons_zero, List.set_cons_succ, i64_w, i32_w]
             rfl
            refine pure_ (i := 12) (N := some 49) (v := ?_) (a' := ?_) #[true, true, true, true, true, true, true, true, true, false, true, true, true, false, false, false, false, false] rfl rfl (any_of HT_.out (by kernel_rfl)) (fun _ _ _ h => h) (Or.inl ⟨by rfl, ?_⟩) ?_ ?_
            rotate_left
            ·intro w'
             go_simp
             with_reducible rfl
            rotate_left
            ·simp only [Act.put, List.setIfInBounds_toArray, List.set_cons_zero, List.set_cons_succ, i64_w, i32_w]
             rfl
            refine take_ (i := 9) (N := some 46) (v := ?_) (a' := ?_) #[true, true, true, true, true, true, true, true, true, true, true, true, true, false, false, false, false, false] rfl rfl (take_ofW HT_.out HW_.out (by kernel_rfl)) (fun _ _ _ h => h) (Or.inl ⟨by rfl, ?_⟩) hHeld ?_ ?_
            rotate_left
            ·rintro w' ⟨s0, s1, s2, s3⟩
             go_simp
             with_reducible rfl
            rotate_left
            ·simp only [Act.put, List.setIfInBounds_toArray, List.set_cons_zero, List.set_cons_succ, i64_w, i32_w]
             rfl
            refine take_ (i := 13) (N := some 50) (v := ?_) (a' := ?_) #[true, true, true, true, true, true, true, true, true, true, true, true, true, true, false, false, false, false] rfl rfl (take_ofW HT_.out HW_.out (by kernel_rfl)) (fun _ _ _ h => h) (Or.inl ⟨by rfl, ?_⟩) hHeld ?_ ?_
            rotate_left
            ·rintro w' ⟨s0, s1, s2, s3⟩
             go_simp
             with_reducible rfl
            rotate_left
            ·simp only [Act.put, List.setIfInBounds_toArray, List.set_cons_zero, List.set_cons_succ, i64_w, i32_w]
             rfl
            refine pure_ (i := 14) (N := some 51) (v := ?_) (a' := ?_) #[true, true, true, true, true, true, true, true, true, true, true, true, true, true, true, false, false, false] rfl rfl (any_of HT_.out (by kernel_rfl)) (fun _ _ _ h => h) (Or.inl ⟨by rfl, ?_⟩) ?_ ?_
            rotate_left
            ·intro w'
             go_simp
             with_reducible rfl
            rotate_left
            ·simp only [Act.put, List.setIfInBounds_toArray, List.set_cons_zero, List.set_cons_succ, i64_w, i32_w]
             rfl
            refine last_ (i := 15) (N := none) #[true, true, true, true, true, true, true, true, true, true, true, true, true, true, true, true, false, false] rfl rfl (one_of HT_.out (by kernel_rfl)) (by decide) (fun K hK => ?_)
            refine skip_ (w1 := ?_) (by rfl) rfl ?_ ?_
            rotate_left
            ·go_simp
             rfl
            refine hK.out _ _ ?_
            clear hK K
            refine pure_ (i := 16) (N := some 52) (v := ?_) (a' := ?_) #[true, true, true, true, true, true, true, true, true, true, true, true, true, true, true, true, true, false] rfl rfl (any_of HT_.out (by kernel_rfl)) (fun _ _ _ h => h) (Or.inl ⟨by rfl, ?_⟩) ?_ ?_
            rotate_left
            ·intro w'
             go_simp
             with_reducible rfl
            rotate_left
            ·simp only [Act.put, List.setIfInBounds_toArray, List.set_cons_zero, List.set_cons_succ, i64_w, i32_w]
             rfl
            refine last_ (i := 17) (N := none) #[true, true, true, true, true, true, true, true, true, true, true, true, true, true, true, true, true, true] rfl rfl (one_of HT_.out (by kernel_rfl)) (by decide) (fun K hK => ?_)
            refine skip_ (w1 := ?_) (by rfl) rfl ?_ ?_
            rotate_left
            ·obtain ⟨_, hA_⟩ := cell?_setCell_some (p := ⟨go14, x9_2.toNat * 2, none⟩) (x := (.int .i64 (rd_T98 x0_2 ji9).f0)) (show w19.cell? ⟨go14, ji9.toNat * 2, none⟩ = some (.int .i64 (rd_T98 x0_2 ji9).f0) by assumption)
             obtain ⟨_, hB0_⟩ := cell?_setCell_some (p := ⟨go14, x9_2.toNat * 2, none⟩) (x := (.int .i64 (rd_T98 x0_2 ji9).f0)) (show w19.cell? ⟨go14, ji9.toNat * 2 + 1, none⟩ = some (.int .u64 (rd_T98 x0_2 ji9).f1) by assumption)
             obtain ⟨_, hB_⟩ := cell?_setCell_some (p := ⟨go14, x9_2.toNat * 2 + 1, none⟩) (x := (.int .u64 (rd_T98 x0_2 ji9).f1)) hB0_
             have hfA_ : w19.frozen? ⟨go14, ji9.toNat * 2, none⟩ = false := by first | assumption | (have h : (w19.setCells go14 (x9_2.toNat * k98.sz + 0) [(.int .i64 (rd_T98 x0_2 ji9).f0), (.int .u64 (rd_T98 x0_2 ji9).f1)]).frozen? ⟨go14, ji9.toNat * 2, none⟩ = false := (by assumption); simp only [World.setCells, World.frozen?_setCell] at h; exact h)
             have hfB_ : w19.frozen? ⟨go14, ji9.toNat * 2 + 1, none⟩ = false := by first | assumption | (have h : (w19.setCells go14 (x9_2.toNat * k98.sz + 0) [(.int .i64 (rd_T98 x0_2 ji9).f0), (.int .u64 (rd_T98 x0_2 ji9).f1)]).frozen? ⟨go14, ji9.toNat * 2 + 1, none⟩ = false := (by assumption); simp only [World.setCells, World.frozen?_setCell] at h; exact h)
             go_simp
             rfl
            refine hK.out _ _ ?_
            clear hK K
            refine done_ (done_of HT_.out (by kernel_rfl)) ?_
            try go_wp2
            go_roundg k2
            case measure => have := HK1.out; have := HK2.out; omega
            case rel => exact ⟨(y115), (ji9), (by first | rfl | (simp; done) | (simp only [← hji9] <;> (first | rfl | simp)) | (simp [*]; done)), H', ⟨by have := HK1.out; have := HK2.out; omega⟩, ⟨by (with_reducible repeat (first | apply Kd.R_alloc | apply Kd.R_drewN | apply Kd.R_drew)); exact HQ21.out⟩, ⟨by repeat (first | (with_reducible first | exact HK.out | apply Kept.alloc | apply Kept.drewN | apply Kept.drew | refine Kept.setCell ?_ HMgo14.out _ | refine Kept.setCell ?_ HMgo14.out _ | refine Kept.setCell ?_ HMgo14.out _ | refine Kept.setCell ?_ HMgo14.out _) | exact HK.out)⟩, ⟨by repeat (first | (with_reducible first | exact HB.out | apply below_alloc | apply pw_below_drewN | apply below_drew1 | refine below_set ?_ GB14.out | refine below_set ?_ GB14.out | refine below_set ?_ GB14.out | refine below_set ?_ GB14.out) | exact HB.out)⟩⟩
           ·rw [if_neg c13] at H
            have c13b0 : decide (t111 < 0) = false := decide_eq_false c13
            clear c13
            have H' := Aside0.mk H
            clear H
            try go_wp2
            have n0_ := Aside0.mk (Kd.R_drew HO_0.out)
            have n1_ := Aside0.mk (Kept.drew HK.out)
            have n2_ := Aside0.mk (below_drew1 HB.out)
            clear HO_0
            clear HK
            clear HB
            have HO_0 := n0_
            have HK := n1_
            have HB := n2_
            clear n0_ n1_ n2_
            obtain ⟨Ao23, co23, eo23⟩ := Kd.R_slice HO_0.out
            (first | subst eo23 | (injection eo23 with f1_ f2_ f3_; have f4_ := f1_.symm; have f5_ := f3_.symm; clear f1_ f2_ f3_; subst f4_; subst f5_))
            have p109 : 0 ≤ (x9_2 : Int) := of_decide_eq_true (by first | (with_reducible assumption) | assumption)
            have q109 : x9_2 < (x0_2.length : Int) := of_decide_eq_true (by first | (with_reducible assumption) | assumption)
            obtain ⟨ad109, e109, hx109_0, hx109_1⟩ := at_T98 (Kd.R_reads' HO_0.out).2.2 x9_2 p109 q109
            cases e109
            replace p109 := eq_true p109
            replace q109 := eq_true q109
            have p110 : 0 ≤ ((ji9) : Int) := of_decide_eq_true (by first | (with_reducible assumption) | assumption)
            have q110 : (ji9) < (x0_2.length : Int) := of_decide_eq_true (by first | (with_reducible assumption) | assumption)
            obtain ⟨ad110, e110, hx110_0, hx110_1⟩ := at_T98 (Kd.R_reads' HO_0.out).2.2 (ji9) p110 q110
            obtain rfl : ad109 = ad110 := (by injection e110)
            replace p110 := eq_true p110
            replace q110 := eq_true q110
            refine start_ (n := 17) (S := fun w' => w'.cell? (ad109.add ((x9_2).toNat * 2)) = some (.int .i64 ((rd_T98 x0_2 x9_2).f0)) ∧ w'.cell? ⟨(ad109.add ((x9_2).toNat * 2)).block, (ad109.add ((x9_2).toNat * 2)).off + 1, none⟩ = some (.int .u64 ((rd_T98 x0_2 x9_2).f1)) ∧ w'.cell? (ad109.add (((ji9)).toNat * 2)) = some (.int .i64 ((rd_T98 x0_2 (ji9)).f0)) ∧ w'.cell? ⟨(ad109.add (((ji9)).toNat * 2)).block, (ad109.add (((ji9)).toNat * 2)).off + 1, none⟩ = some (.int .u64 ((rd_T98 x0_2 (ji9)).f1))) (ds := []) #[false, false, false, false, false, false, false, false, false, false, false, false, false, false, false, false, false] (by kernel_rfl) rfl rfl ⟨hx109_0, hx109_1, hx110_0, hx110_1⟩ (fun hHeld => ?_); refine with_tabW money_rest_74.tab4 money_rest_74.bits4 (fun HT_ HW_ => ?_)
            generalize wr.drew = w22 at HO_0 HK HB hx109_0 hx109_1 hx110_0 hx110_1 hHeld ⊢
            refine pure_ (i := 0) (N := some 18) (v := ?_) (a' := ?_) #[true, false, false, false, false, false, false, false, false, false, false, false, false, false, false, false, false] rfl rfl (any_of HT_.out (by kernel_rfl)) (fun _ _ _ h => h) (Or.inl ⟨by rfl, ?_⟩) ?_ ?_
            rotate_left
            ·intro w'
             go_simp
             with_reducible rfl
            rotate_left
            ·simp only [Act.put, List.setIfInBounds_toArray, List.set_cons_zero, List.set_cons_succ, i64_w, i32_w]
             rfl
            refine pure_ (i := 1) (N := some 19) (v := ?_) (a' := ?_) #[true, true, false, false, false, false, false, false, false, false, false, false, false, false, false, false, false] rfl rfl (any_of HT_.out (by kernel_rfl)) (fun _ _ _ h => h) (Or.inl ⟨by rfl, ?_⟩) ?_ ?_
            rotate_left
            ·intro w'
             go_simp
             with_reducible rfl
            rotate_left
            ·simp only [Act.put, List.setIfInBounds_toArray, List.set_cons_zero, List.set_cons_succ, i64_w, i32_w]
             rfl
            refine pure_ (i := 2) (N := some 20) (v := ?_) (a' := ?_) #[true, true, true, false, false, false, false, false, false, false, false, false, false, false, false, false, false] rfl rfl (any_of HT_.out (by kernel_rfl)) (fun _ _ _ h => h) (Or.inl ⟨by rfl, ?_⟩) ?_ ?_
            rotate_left
            ·intro w'
             go_simp
             with_reducible rfl
            rotate_left
            ·simp only [Act.put, List.setIfInBounds_toArray, List.set_cons_zero, List.set_cons_succ, i64_w, i32_w]
             rfl
            refine pure_ (i := 3) (N := some 21) (v := ?_) (a' := ?_) #[true, true, true, true, false, false, false, false, false, false, false, false, false, false, false, false, false] rfl rfl (any_of HT_.out (by kernel_rfl)) (fun _ _ _ h => h) (Or.inl ⟨by rfl, ?_⟩) ?_ ?_
            rotate_left
            ·intro w'
             go_simp
             with_reducible rfl
            rotate_left
            ·simp only [Act.put, List.setIfInBounds_toArray, List.set_cons_zero, List.set_cons_succ, i64_w, i32_w]
             rfl
            refine pure_ (i := 4) (N := some 22) (v := ?_) (a' := ?_) #[true, true, true, true, true, false, false, false, false, false, false, false, false, false, false, false, false] rfl rfl (any_of HT_.out (by kernel_rfl)) (fun _ _ _ h => h) (Or.inl ⟨by rfl, ?_⟩) ?_ ?_
            rotate_left
            ·intro w'
             go_simp
             with_reducible rfl
            rotate_left
            ·simp only [Act.put, List.setIfInBounds_toArray, List.set_cons_zero, List.set_cons_succ, i64_w, i32_w]
             rfl
            refine pure_ (i := 5) (N := some 23) (v := ?_) (a' := ?_) #[true, true, true, true, true, true, false, false, false, false, false, false, false, false, false, false, false] rfl rfl (any_of HT_.out (by kernel_rfl)) (fun _ _ _ h => h) (Or.inl ⟨by rfl, ?_⟩) ?_ ?_
            rotate_left
            ·intro w'
             go_simp
             with_reducible rfl
            rotate_left
            ·simp only [Act.put, List.setIfInBounds_toArray, List.set_cons_zero, List.set_cons_succ, i64_w, i32_w]
             rfl
            refine pure_ (i := 6) (N := some 24) (v := ?_) (a' := ?_) #[true, true, true, true, true, true, true, false, false, false, false, false, false, false, false, false, false] rfl rfl (any_of HT_.out (by kernel_rfl)) (fun _ _ _ h => h) (Or.inl ⟨by rfl, ?_⟩) ?_ ?_
            rotate_left
            ·intro w'
             go_simp
             with_reducible rfl
            rotate_left
            ·simp only [Act.put, List.setIfInBounds_toArray, List.set_cons_zero, List.set_cons_succ, i64_w, i32_w]
             rfl
            refine pure_ (i := 7) (N := some 25) (v := ?_) (a' := ?_) #[true, true, true, true, true, true, true, true, false, false, false, false, false, false, false, false, false] rfl rfl (any_of HT_.out (by kernel_rfl)) (fun _ _ _ h => h) (Or.inl ⟨by rfl, ?_⟩) ?_ ?_
            rotate_left
            ·intro w'
             go_simp
             with_reducible rfl
            rotate_left
            ·simp only [Act.put, List.setIfInBounds_toArray, List.set_cons_zero, List.set_cons_succ, i64_w, i32_w]
             rfl
            refine pure_ (i := 9) (N := some 27) (v := ?_) (a' := ?_) #[true, true, true, true, true, true, true, true, false, true, false, false, false, false, false, false, false] rfl rfl (any_of HT_.out (by kernel_rfl)) (fun _ _ _ h => h) (Or.inl ⟨by rfl, ?_⟩) ?_ ?_
            rotate_left
            ·intro w'
             go_simp
             with_reducible rfl
            rotate_left
            ·simp only [Act.put, List.setIfInBounds_toArray, List.set_cons_zero, List.set_cons_succ, i64_w, i32_w]
             rfl
            refine pure_ (i := 10) (N := some 28) (v := ?_) (a' := ?_) #[true, true, true, true, true, true, true, true, false, true, true, false, false, false, false, false, false] rfl rfl (any_of HT_.out (by kernel_rfl)) (fun _ _ _ h => h) (Or.inl ⟨by rfl, ?_⟩) ?_ ?_
            rotate_left
            ·intro w'
             go_simp
             with_reducible rfl
            rotate_left
            ·simp only [Act.put, List.setIfInBounds_toArray, List.set_cons_zero, List.set_cons_succ, i64_w, i32_w]
             rfl
            refine pure_ (i := 11) (N := some 29) (v := ?_) (a' := ?_) #[true, true, true, true, true, true, true, true, false, true, true, true, false, false, false, false, false] rfl rfl (any_of HT_.out (by kernel_rfl)) (fun _ _ _ h => h) (Or.inl ⟨by rfl, ?_⟩) ?_ ?_
            rotate_left
            ·intro w'
             go_simp
             with_reducible rfl
            rotate_left
            ·simp only [Act.put, List.setIfInBounds_toArray, List.set_cons_zero, List.set_cons_succ, i64_w, i32_w]
             rfl
            refine pure_ (i := 12) (N := some 30) (v := ?_) (a' := ?_) #[true, true, true, true, true, true, true, true, false, true, true, true, true, false, false, false, false] rfl rfl (any_of HT_.out (by kernel_rfl)) (fun _ _ _ h => h) (Or.inl ⟨by rfl, ?_⟩) ?_ ?_
            rotate_left
            ·intro w'
             go_simp
             with_reducible rfl
            rotate_left
            ·simp only [Act.put, List.setIfInBounds_toArray, List.set_cons_zero, List.set_cons_succ, i64_w, i32_w]
             rfl
            refine take_ (i := 8) (N := some 26) (v := ?_) (a' := ?_) #[true, true, true, true, true, true, true, true, true, true, true, true, true, false, false, false, false] rfl rfl (take_ofW HT_.out HW_.out (by kernel_rfl)) (fun _ _ _ h => h) (Or.inl ⟨by rfl, ?_⟩) hHeld ?_ ?_
            rotate_left
            ·rintro w' ⟨s0, s1, s2, s3⟩
             go_simp
             with_reducible rfl
            rotate_left
            ·simp only [Act.put, List.setIfInBounds_toArray, List.set_cons_zero, List.set_cons_succ, i64_w, i32_w]
             rfl
            refine take_ (i := 13) (N := some 31) (v := ?_) (a' := ?_) #[true, true, true, true, true, true, true, true, true, true, true, true, true, true, false, false, false] rfl rfl (take_ofW HT_.out HW_.out (by kernel_rfl)) (fun _ _ _ h => h) (Or.inl ⟨by rfl, ?_⟩) hHeld ?_ ?_
            rotate_left
            ·rintro w' ⟨s0, s1, s2, s3⟩
             go_simp
             with_reducible rfl
            rotate_left
            ·simp only [Act.put, List.setIfInBounds_toArray, List.set_cons_zero, List.set_cons_succ, i64_w, i32_w]
             rfl
            refine one_ (i := 14) (N := some 32) #[true, true, true, true, true, true, true, true, true, true, true, true, true, true, true, false, false] rfl rfl (one_of HT_.out (by kernel_rfl)) (by decide) (fun K hK => ?_)
            refine goesV_ Try.func52 (by kernel_rfl) rfl #[.agg #[.int .i64 ((rd_T98 x0_2 x9_2).f0), .int .u64 ((rd_T98 x0_2 x9_2).f1)], .agg #[.int .i64 ((rd_T98 x0_2 (ji9)).f0), .int .u64 ((rd_T98 x0_2 (ji9)).f1)]] (by rfl) rfl rfl (by (try simp only [List.map_toArray, List.map_cons, List.map_nil]); first | done | (simp only [hji9]; rfl) | rfl | (simp only [List.length_drop, List.length_take]; rfl)) (by first | rfl | go_simp) ?_
            with_reducible refine (money_Split_2.calls ((rd_T98 x0_2 x9_2).f0) ((rd_T98 x0_2 x9_2).f1) ((rd_T98 x0_2 (ji9)).f0) ((rd_T98 x0_2 (ji9)).f1) t111 _ A12.out).mono ?_
            rintro e w24 ⟨rfl, hb⟩
            have HS0_ := (hb.cell (World.block_lt_of_cell? _ _ (hHeld.1))).trans (hHeld.1)
            have HS1_ := (hb.cell (World.block_lt_of_cell? _ _ (hHeld.2.1))).trans (hHeld.2.1)
            have HS2_ := (hb.cell (World.block_lt_of_cell? _ _ (hHeld.2.2.1))).trans (hHeld.2.2.1)
            have HS3_ := (hb.cell (World.block_lt_of_cell? _ _ (hHeld.2.2.2))).trans (hHeld.2.2.2)
            refine ⟨_, rfl, ?_⟩
            have n0_ := Aside0.mk (Kd.R_below (by (with_reducible repeat (first | apply Kd.R_alloc | apply Kd.R_drewN | apply Kd.R_drew)); exact HO_0.out) hb)
            have n1_ := Aside0.mk (Kept.below (S := (fun k_ => P0_ k_)) (by repeat (first | (with_reducible first | exact HK.out | apply Kept.alloc | apply Kept.drewN | apply Kept.drew) | exact HK.out)) hb)
            have n2_ := Aside0.mk (below_step (by repeat (first | (with_reducible first | exact HB.out | apply below_alloc | apply pw_below_drewN | apply below_drew1) | exact HB.out)) hb)
            clear HO_0
            clear HK
            clear HB
            have HO_0 := n0_
            have HK := n1_
            have HB := n2_
            clear n0_ n1_ n2_
            (try clear hb)
            (try clear hb2)
            (try clear hk)
            (try clear hi)
            refine hK.out _ _ ⟨HS0_, HS1_, HS2_, HS3_⟩ (fun hHeld => ?_)
            clear hK K
            refine norm_ (a' := ?_) ?_ ?_
            rotate_left
            ·show Act.put _ (some 32) _ = _
             simp only [Act.put, List.setIfInBounds_toArray, List.set_cons_zero, List.set_cons_succ, i64_w, i32_w]
             rfl
            refine pure_ (i := 15) (N := some 33) (v := ?_) (a' := ?_) #[true, true, true, true, true, true, true, true, true, true, true, true, true, true, true, true, false] rfl rfl (any_of HT_.out (by kernel_rfl)) (fun _ _ _ h => h) (Or.inl ⟨by rfl, ?_⟩) ?_ ?_
            rotate_left
            ·intro w'
             go_simp
             with_reducible rfl
            rotate_left
            ·simp only [Act.put, List.setIfInBounds_toArray, List.set_cons_zero, List.set_cons_succ, i64_w, i32_w]
             rfl
            refine pure_ (i := 16) (N := some 34) (v := ?_) (a' := ?_) #[true, true, true, true, true, true, true, true, true, true, true, true, true, true, true, true, true] rfl rfl (any_of HT_.out (by kernel_rfl)) (fun _ _ _ h => h) (Or.inl ⟨by rfl, ?_⟩) ?_ ?_
            rotate_left
            ·intro w'
             go_simp
             with_reducible rfl
            rotate_left
            ·simp only [Act.put, List.setIfInBounds_toArray, List.set_cons_zero, List.set_cons_succ, i64_w, i32_w]
             rfl
            refine done_ (done_of HT_.out (by kernel_rfl)) ?_
            try go_wp2
            go_roundg k2
            case measure => have := HK1.out; have := HK2.out; omega
            case rel => exact ⟨(x0_2), (wrap64 (x8_1 + 1)), (by first | rfl | (simp; done) | (simp [*]; done)), H', ⟨by have := HK1.out; have := HK2.out; omega⟩, ⟨by (with_reducible repeat (first | apply Kd.R_alloc | apply Kd.R_drewN | apply Kd.R_drew)); exact HO_0.out⟩, ⟨by repeat (first | (with_reducible first | exact HK.out | apply Kept.alloc | apply Kept.drewN | apply Kept.drew) | exact HK.out)⟩, ⟨by repeat (first | (with_reducible first | exact HB.out | apply below_alloc | apply pw_below_drewN | apply below_drew1) | exact HB.out)⟩⟩
          ·rw [if_neg c11] at H
           exact absurd H (by simp)
         ·rw [if_neg c10] at H
          exact absurd H (by simp)
        ·rw [if_neg c8] at H
         exact absurd H (by simp)
       ·rw [if_neg c7] at H
        exact absurd H (by simp)
      ·rw [if_neg c6] at H
       have c6b0 : decide (a1 < x9_2) = false := decide_eq_false c6
       clear c6
       have H' := Aside0.mk H
       clear H
       try go_wp2
       have n0_ := Aside0.mk (Kd.R_drew HO_0.out)
       have n1_ := Aside0.mk (Kept.drew HK.out)
       have n2_ := Aside0.mk (below_drew1 HB.out)
       clear HO_0
       clear HK
       clear HB
       have HO_0 := n0_
       have HK := n1_
       have HB := n2_
       clear n0_ n1_ n2_
       refine start_ (n := 17) (S := fun w' => True) (ds := []) #[false, false, false, false, false, false, false, false, false, false, false, false, false, false, false, false, false] (by kernel_rfl) rfl rfl trivial (fun hHeld => ?_); refine with_tabW money_rest_74.tab4 money_rest_74.bits4 (fun HT_ HW_ => ?_)
       generalize wr.drew = w25 at HO_0 HK HB hHeld ⊢
       refine pure_ (i := 0) (N := some 18) (v := ?_) (a' := ?_) #[true, false, false, false, false, false, false, false, false, false, false, false, false, false, false, false, false] rfl rfl (any_of HT_.out (by kernel_rfl)) (fun _ _ _ h => h) (Or.inl ⟨by rfl, ?_⟩) ?_ ?_
       rotate_left
       ·intro w'
        go_simp
        with_reducible rfl
       rotate_left
       ·simp only [Act.put, List.setIfInBounds_toArray, List.set_cons_zero, List.set_cons_succ, i64_w, i32_w]
        rfl
       refine pure_ (i := 1) (N := some 19) (v := ?_) (a' := ?_) #[true, true, false, false, false, false, false, false, false, false, false, false, false, false, false, false, false] rfl rfl (any_of HT_.out (by kernel_rfl)) (fun _ _ _ h => h) (Or.inl ⟨by rfl, ?_⟩) ?_ ?_
       rotate_left
       ·intro w'
        go_simp
        with_reducible rfl
       rotate_left
       ·simp only [Act.put, List.setIfInBounds_toArray, List.set_cons_zero, List.set_cons_succ, i64_w, i32_w]
        rfl
       refine pure_ (i := 2) (N := some 20) (v := ?_) (a' := ?_) #[true, true, true, false, false, false, false, false, false, false, false, false, false, false, false, false, false] rfl rfl (any_of HT_.out (by kernel_rfl)) (fun _ _ _ h => h) (Or.inl ⟨by rfl, ?_⟩) ?_ ?_
       rotate_left
       ·intro w'
        go_simp
        with_reducible rfl
       rotate_left
       ·simp only [Act.put, List.setIfInBounds_toArray, List.set_cons_zero, List.set_cons_succ, i64_w, i32_w]
        rfl
       refine pure_ (i := 3) (N := some 21) (v := ?_) (a' := ?_) #[true, true, true, true, false, false, false, false, false, false, false, false, false, false, false, false, false] rfl rfl (any_of HT_.out (by kernel_rfl)) (fun _ _ _ h => h) (Or.inl ⟨by rfl, ?_⟩) ?_ ?_
       rotate_left
       ·intro w'
        go_simp
        with_reducible rfl
       rotate_left
       ·simp only [Act.put, List.setIfInBounds_toArray, List.set_cons_zero, List.set_cons_succ, i64_w, i32_w]
        rfl
       refine pure_ (i := 4) (N := some 22) (v := undef) (a' := ?_) #[true, true, true, true, true, false, false, false, false, false, false, false, false, false, false, false, false] rfl rfl (any_of HT_.out (by kernel_rfl)) (fun _ _ _ h => h) (Or.inr ⟨by rfl, rfl⟩) ?_ ?_
       rotate_left
       ·simp only [Act.put, List.setIfInBounds_toArray, List.set_cons_zero, List.set_cons_succ, i64_w, i32_w]
        rfl
       refine pure_ (i := 5) (N := some 23) (v := undef) (a' := ?_) #[true, true, true, true, true, true, false, false, false, false, false, false, false, false, false, false, false] rfl rfl (any_of HT_.out (by kernel_rfl)) (fun _ _ _ h => h) (Or.inr ⟨by rfl, rfl⟩) ?_ ?_
       rotate_left
       ·simp only [Act.put, List.setIfInBounds_toArray, List.set_cons_zero, List.set_cons_succ, i64_w, i32_w]
        rfl
       refine pure_ (i := 6) (N := some 24) (v := undef) (a' := ?_) #[true, true, true, true, true, true, true, false, false, false, false, false, false, false, false, false, false] rfl rfl (any_of HT_.out (by kernel_rfl)) (fun _ _ _ h => h) (Or.inr ⟨by rfl, rfl⟩) ?_ ?_
       rotate_left
       ·simp only [Act.put, List.setIfInBounds_toArray, List.set_cons_zero, List.set_cons_succ, i64_w, i32_w]
        rfl
       refine pure_ (i := 7) (N := some 25) (v := undef) (a' := ?_) #[true, true, true, true, true, true, true, true, false, false, false, false, false, false, false, false, false] rfl rfl (any_of HT_.out (by kernel_rfl)) (fun _ _ _ h => h) (Or.inr ⟨by rfl, rfl⟩) ?_ ?_
       rotate_left
       ·simp only [Act.put, List.setIfInBounds_toArray, List.set_cons_zero, List.set_cons_succ, i64_w, i32_w]
        rfl
       refine pure_ (i := 8) (N := some 26) (v := undef) (a' := ?_) #[true, true, true, true, true, true, true, true, true, false, false, false, false, false, false, false, false] rfl rfl (any_of HT_.out (by kernel_rfl)) (fun _ _ _ h => h) (Or.inr ⟨by rfl, rfl⟩) ?_ ?_
       rotate_left
       ·simp only [Act.put, List.setIfInBounds_toArray, List.set_cons_zero, List.set_cons_succ, i64_w, i32_w]
        rfl
       refine pure_ (i := 9) (N := some 27) (v := undef) (a' := ?_) #[true, true, true, true, true, true, true, true, true, true, false, false, false, false, false, false, false] rfl rfl (any_of HT_.out (by kernel_rfl)) (fun _ _ _ h => h) (Or.inr ⟨by rfl, rfl⟩) ?_ ?_
       rotate_left
       ·simp only [Act.put, List.setIfInBounds_toArray, List.set_cons_zero, List.set_cons_succ, i64_w, i32_w]
        rfl
       refine pure_ (i := 10) (N := some 28) (v := undef) (a' := ?_) #[true, true, true, true, true, true, true, true, true, true, true, false, false, false, false, false, false] rfl rfl (any_of HT_.out (by kernel_rfl)) (fun _ _ _ h => h) (Or.inr ⟨by rfl, rfl⟩) ?_ ?_
       rotate_left
       ·simp only [Act.put, List.setIfInBounds_toArray, List.set_cons_zero, List.set_cons_succ, i64_w, i32_w]
        rfl
       refine pure_ (i := 11) (N := some 29) (v := undef) (a' := ?_) #[true, true, true, true, true, true, true, true, true, true, true, true, false, false, false, false, false] rfl rfl (any_of HT_.out (by kernel_rfl)) (fun _ _ _ h => h) (Or.inr ⟨by rfl, rfl⟩) ?_ ?_
       rotate_left
       ·simp only [Act.put, List.setIfInBounds_toArray, List.set_cons_zero, List.set_cons_succ, i64_w, i32_w]
        rfl
       refine pure_ (i := 12) (N := some 30) (v := undef) (a' := ?_) #[true, true, true, true, true, true, true, true, true, true, true, true, true, false, false, false, false] rfl rfl (any_of HT_.out (by kernel_rfl)) (fun _ _ _ h => h) (Or.inr ⟨by rfl, rfl⟩) ?_ ?_
       rotate_left
       ·simp only [Act.put, List.setIfInBounds_toArray, List.set_cons_zero, List.set_cons_succ, i64_w, i32_w]
        rfl
       refine pure_ (i := 13) (N := some 31) (v := undef) (a' := ?_) #[true, true, true, true, true, true, true, true, true, true, true, true, true, true, false, false, false] rfl rfl (any_of HT_.out (by kernel_rfl)) (fun _ _ _ h => h) (Or.inr ⟨by rfl, rfl⟩) ?_ ?_
       rotate_left
       ·simp only [Act.put, List.setIfInBounds_toArray, List.set_cons_zero, List.set_cons_succ, i64_w, i32_w]
        rfl
       refine pure_ (i := 14) (N := some 32) (v := undef) (a' := ?_) #[true, true, true, true, true, true, true, true, true, true, true, true, true, true, true, false, false] rfl rfl (any_of HT_.out (by kernel_rfl)) (fun _ _ _ h => h) (Or.inr ⟨by rfl, rfl⟩) ?_ ?_
       rotate_left
       ·simp only [Act.put, List.setIfInBounds_toArray, List.set_cons_zero, List.set_cons_succ, i64_w, i32_w]
        rfl
       refine pure_ (i := 15) (N := some 33) (v := undef) (a' := ?_) #[true, true, true, true, true, true, true, true, true, true, true, true, true, true, true, true, false] rfl rfl (any_of HT_.out (by kernel_rfl)) (fun _ _ _ h => h) (Or.inr ⟨by rfl, rfl⟩) ?_ ?_
       rotate_left
       ·simp only [Act.put, List.setIfInBounds_toArray, List.set_cons_zero, List.set_cons_succ, i64_w, i32_w]
        rfl
       refine pure_ (i := 16) (N := some 34) (v := ?_) (a' := ?_) #[true, true, true, true, true, true, true, true, true, true, true, true, true, true, true, true, true] rfl rfl (any_of HT_.out (by kernel_rfl)) (fun _ _ _ h => h) (Or.inl ⟨by rfl, ?_⟩) ?_ ?_
       rotate_left
       ·intro w'
        go_simp
        with_reducible rfl
       rotate_left
       ·simp only [Act.put, List.setIfInBounds_toArray, List.set_cons_zero, List.set_cons_succ, i64_w, i32_w]
        rfl
       refine done_ (done_of HT_.out (by kernel_rfl)) ?_
       try go_wp2
       go_roundg k2
       case measure => have := HK1.out; have := HK2.out; omega
       case rel => exact ⟨(x0_2), (wrap64 (x8_1 + 1)), (by first | rfl | (simp; done) | (simp [*]; done)), H', ⟨by have := HK1.out; have := HK2.out; omega⟩, ⟨by (with_reducible repeat (first | apply Kd.R_alloc | apply Kd.R_drewN | apply Kd.R_drew)); exact HO_0.out⟩, ⟨by repeat (first | (with_reducible first | exact HK.out | apply Kept.alloc | apply Kept.drewN | apply Kept.drew) | exact HK.out)⟩, ⟨by repeat (first | (with_reducible first | exact HB.out | apply below_alloc | apply pw_below_drewN | apply below_drew1) | exact HB.out)⟩⟩
   ·rw [if_neg c5] at H
    have c5b0 : decide (x8_1 < a2) = false := decide_eq_false c5
    clear c5
    obtain rfl := Option.some.inj H
    go_wp2
    first | go_end0 | ((try simp only [Exit.inBlock, Exit.then]); refine bodyPost_ret (results_none rfl _ _ _) rfl ?_)
    exact ⟨by first | rfl | (simp [errW_none, errW_some] <;> rfl) | (simp [*, errW_none, errW_some] <;> rfl), by (with_reducible repeat (first | apply Kd.R_alloc | apply Kd.R_drewN | apply Kd.R_drew)); exact HO_0.out, by repeat (first | (with_reducible first | exact HB.out | apply below_alloc | apply pw_below_drewN | apply below_drew1) | exact HB.out), by repeat (first | (with_reducible first | exact HK.out | apply Kept.alloc | apply Kept.drewN | apply Kept.drew) | exact HK.out)⟩
end Go.Proofs.Ytncnhhnbjmpomaa.Q
namespace Go.Proofs.Ytncnhhnbjmpomaa.Q
open Go.RowKit Go.Proofs.YtncnhhnbjmpomaaW.PrintWords Go.Proofs.YtncnhhnbjmpomaaW.PrintLast Go.Proofs.YtncnhhnbjmpomaaW.PrintMore
attribute [local go_sem] max2_int min2_int max_two min_two max_three min_three max_four min_four   -- for this text's walks alone
set_option linter.unusedVariables false
set_option linter.unusedSimpArgs false
mutual
def money_rest_66.l0 : Nat → List (S98) → Int → Int → Int → Int → Option ((List (S98)))
 | 0, _, _, _, _, _ => none
 | k + 1, x0, x1, x6, x7, x8 => if x8 ≤ x1 then ((money_rest_74.f k x0 x7 x8 52).bind fun t144 => (money_rest_66.l0 k t144 x1 x6 x8 (wrap64 (x8 + x6)))) else ((money_rest_74.f k x0 x7 x1 52).bind fun t145 => (money_rest_66.l1 k t145 x1 x6))
def money_rest_66.l1 : Nat → List (S98) → Int → Int → Option ((List (S98)))
 | 0, _, _, _ => none
 | k + 1, x0, x1, x6 => if x6 < x1 then (money_rest_66.l2 k x0 x1 x6 0 (wrap64 (2 * x6))) else (some x0)
def money_rest_66.l2 : Nat → List (S98) → Int → Int → Int → Int → Option ((List (S98)))
 | 0, _, _, _, _, _ => none
 | k + 1, x0, x1, x6, x7, x8 => if x8 ≤ x1 then ((money_rest_75.f k x0 x7 (wrap64 (x7 + x6)) x8 52).bind fun t146 => (money_rest_66.l2 k t146 x1 x6 x8 (wrap64 (x8 + (wrap64 (2 * x6)))))) else (if (wrap64 (x7 + x6)) < x1 then ((money_rest_75.f k x0 x7 (wrap64 (x7 + x6)) x1 52).bind fun t147 => (money_rest_66.l1 k t147 x1 (wrap64 (x6 * 2)))) else (money_rest_66.l1 k x0 x1 (wrap64 (x6 * 2))))
end
def money_rest_66.f (k : Nat) (l0 : List (S98)) (a1 : Int) (a2 : Nat) : Option ((List (S98))) := money_rest_66.l0 k l0 a1 20 0 20
set_option maxHeartbeats 8000000 in
set_option maxRecDepth 100000 in
theorem money_rest_66.calls (k : Nat) (P0_ : Nat → Prop) (u9000_ : Value) (l0 : List (S98)) (a1 : Int) (a2 : Nat) (r : List (S98)) (w0 w : World) (hB : Below w0.heap.size w0 w) (ho0 : Kd.R k98 98 w w0.heap.size P0_ u9000_ l0) (h : money_rest_66.f k l0 a1 a2 = some r) :
  Calls Try.prog 66 #[u9000_, .int .i64 a1, .func (.func 52) #[] #[]] w fun e w' => e = .returned (.tuple #[]) ∧ Kd.R k98 98 w' w0.heap.size (fun k_ => (P0_ k_ ∨ w.heap.size ≤ k_)) u9000_ r ∧ Below w0.heap.size w0 w' ∧ Kept w w' (fun k_ => P0_ k_) := by
 have HO0 := Aside0.mk (show Kd.R k98 98 w w0.heap.size (fun k_ => (P0_ k_ ∨ w.heap.size ≤ k_)) u9000_ l0 from Kd.R_mono ho0 (fun k_ hk => (.inl hk)))
 have HK := Aside0.mk (Kept.refl w (fun k_ => P0_ k_))
 have HW0 := Aside0.mk hB.size
 have HB := Aside0.mk hB
 clear hB
 have H : (money_rest_66.l0 k l0 a1 20 0 20) = some r := h
 clear h
 have H' := Aside0.mk H
 clear H
 go_enter Try.func66, Try.ntmps66
 go_wp2
 go_loopg [7, 8] k (fun kq v7 v8 w' => ∃ (x0_1 : List (S98)) (x7_1 : Int) (x8_1 : Int), v7 = .int .i64 x7_1 ∧ v8 = .int .i64 x8_1 ∧ Aside0 (money_rest_66.l0 kq x0_1 a1 20 x7_1 x8_1 = some r) ∧ Aside0 (kq ≤ k) ∧ Aside0 (Kd.R k98 98 w' w0.heap.size (fun k_ => (P0_ k_ ∨ w.heap.size ≤ k_)) u9000_ x0_1) ∧ Aside0 (Kept w w' (fun k_ => P0_ k_)) ∧ Aside0 (Below w0.heap.size w0 w'))
 case atStart => exact ⟨(l0), (0), (20), (by first | rfl | (simp; done) | (simp [*]; done)), (by first | rfl | (simp; done) | (simp [*]; done)), H', ⟨Nat.le_refl _⟩, ⟨by (with_reducible repeat (first | apply Kd.R_alloc | apply Kd.R_drewN | apply Kd.R_drew)); exact HO0.out⟩, ⟨by repeat (first | (with_reducible first | exact HK.out | apply Kept.alloc | apply Kept.drewN | apply Kept.drew) | exact HK.out)⟩, ⟨by repeat (first | (with_reducible first | exact HB.out | apply below_alloc | apply pw_below_drewN | apply below_drew1) | exact HB.out)⟩⟩
 case round =>
  clear H'
  try clear p2
  obtain ⟨x0_1, x7_1, x8_1, rfl, rfl, HA, HK1, HO_0, HK, HB⟩ := hrel
  cases gk with
  | zero => exact absurd HA.out (by simp [money_rest_66.l0])
  | succ k1 =>
   have H := HA.out
   clear HA
   simp only [money_rest_66.l0] at H
   by_cases c4 : x8_1 ≤ a1
   ·rw [if_pos c4] at H
    have c4b0 : decide (x8_1 ≤ a1) = true := decide_eq_true c4
    clear c4
    replace H := Option.bind_eq_some_iff.mp H
    obtain ⟨t144, A50, H⟩ := H
    replace H : (money_rest_66.l0 k1 t144 a1 20 x8_1 (wrap64 (x8_1 + 20))) = some r := H
    have A5 := Aside0.mk A50
    clear A50
    have H' := Aside0.mk H
    clear H
    obtain ⟨Ao6, co6, eo6⟩ := Kd.R_slice HO_0.out
    subst eo6
    go_wp2_with (first | ((with_reducible refine gate_callee (f := 74) rfl ?_); refine goesL_ (some 18) rfl rfl Try.func74 (by kernel_rfl) rfl #[.slice Ao6 x0_1.length co6, .int .i64 x7_1, .int .i64 x8_1, .func (.func 52) #[] #[]] rfl (by (try simp only [List.map_toArray, List.map_cons, List.map_nil]); first | done | rfl | (simp only [List.length_drop, List.length_take]; rfl)) ?_; (with_reducible refine (money_rest_74.calls k1 (fun k_ => some k_ = (.slice Ao6 x0_1.length co6 : Value).ownBlock) (.slice Ao6 x0_1.length co6) x0_1 x7_1 x8_1 52 t144 w0 _ ?side1 ?side2 A5.out).mono ?_); (case side1 => repeat (first | (with_reducible first | exact HB.out | apply below_alloc | apply pw_below_drewN | apply below_drew1) | exact HB.out)); (case side2 => exact Kd.R_tight rfl HO_0.out); rintro e w7 ⟨rfl, hy0, hb, hkp⟩; refine ⟨_, rfl, ?_⟩; have n0_ := Aside0.mk (Kd.R_reok rfl hy0 (fun k_ e_ => HO_0.out.1 k_ e_)); have n1_ := Aside0.mk (Kept.then_ (S := (fun k_ => P0_ k_)) (by repeat (first | (with_reducible first | exact HK.out | apply Kept.alloc | apply Kept.drewN | apply Kept.drew) | exact HK.out)) hkp (fun k_ hs_ => (fun e_ => (HO_0.out.1 k_ e_.symm)) hs_)); have n2_ := Aside0.mk (hb); clear HO_0; clear HK; clear HB; have HO_0 := n0_; have HK := n1_; have HB := n2_; clear n0_ n1_ n2_; (try clear hb); (try clear hkp); (try clear hy0)))
    go_roundg k1
    case measure => have := HK1.out; omega
    case rel => exact ⟨(t144), (x8_1), (wrap64 (x8_1 + 20)), (by first | rfl | (simp; done) | (simp [*]; done)), (by first | rfl | (simp; done) | (simp [*]; done)), H', ⟨by have := HK1.out; omega⟩, ⟨by (with_reducible repeat (first | apply Kd.R_alloc | apply Kd.R_drewN | apply Kd.R_drew)); exact HO_0.out⟩, ⟨by repeat (first | (with_reducible first | exact HK.out | apply Kept.alloc | apply Kept.drewN | apply Kept.drew) | exact HK.out)⟩, ⟨by repeat (first | (with_reducible first | exact HB.out | apply below_alloc | apply pw_below_drewN | apply below_drew1) | exact HB.out)⟩⟩
   ·rw [if_neg c4] at H
    have c4b0 : decide (x8_1 ≤ a1) = false := decide_eq_false c4
    clear c4
    replace H := Option.bind_eq_some_iff.mp H
    obtain ⟨t145, A80, H⟩ := H
    replace H : (money_rest_66.l1 k1 t145 a1 20) = some r := H
    have A8 := Aside0.mk A80
    clear A80
    have H' := Aside0.mk H
    clear H
    obtain ⟨Ao9, co9, eo9⟩ := Kd.R_slice HO_0.out
    subst eo9
    go_wp2_with (first | ((with_reducible refine gate_callee (f := 74) rfl ?_); refine goesL_ (some 27) rfl rfl Try.func74 (by kernel_rfl) rfl #[.slice Ao9 x0_1.length co9, .int .i64 x7_1, .int .i64 a1, .func (.func 52) #[] #[]] rfl (by (try simp only [List.map_toArray, List.map_cons, List.map_nil]); first | done | rfl | (simp only [List.length_drop, List.length_take]; rfl)) ?_; (with_reducible refine (money_rest_74.calls k1 (fun k_ => some k_ = (.slice Ao9 x0_1.length co9 : Value).ownBlock) (.slice Ao9 x0_1.length co9) x0_1 x7_1 a1 52 t145 w0 _ ?side1 ?side2 A8.out).mono ?_); (case side1 => repeat (first | (with_reducible first | exact HB.out | apply below_alloc | apply pw_below_drewN | apply below_drew1) | exact HB.out)); (case side2 => exact Kd.R_tight rfl HO_0.out); rintro e w10 ⟨rfl, hy0, hb, hkp⟩; refine ⟨_, rfl, ?_⟩; have n0_ := Aside0.mk (Kd.R_reok rfl hy0 (fun k_ e_ => HO_0.out.1 k_ e_)); have n1_ := Aside0.mk (Kept.then_ (S := (fun k_ => P0_ k_)) (by repeat (first | (with_reducible first | exact HK.out | apply Kept.alloc | apply Kept.drewN | apply Kept.drew) | exact HK.out)) hkp (fun k_ hs_ => (fun e_ => (HO_0.out.1 k_ e_.symm)) hs_)); have n2_ := Aside0.mk (hb); clear HO_0; clear HK; clear HB; have HO_0 := n0_; have HK := n1_; have HB := n2_; clear n0_ n1_ n2_; (try clear hb); (try clear hkp); (try clear hy0)))
    go_frame
    go_loopg [6] k1 (fun kq v6 w' => ∃ (x0_2 : List (S98)) (x6_2 : Int), v6 = .int .i64 x6_2 ∧ Aside0 (money_rest_66.l1 kq x0_2 a1 x6_2 = some r) ∧ Aside0 (kq ≤ k1) ∧ Aside0 (Kd.R k98 98 w' w0.heap.size (fun k_ => (P0_ k_ ∨ w.heap.size ≤ k_)) (.slice Ao9 x0_1.length co9) x0_2) ∧ Aside0 (Kept w w' (fun k_ => P0_ k_)) ∧ Aside0 (Below w0.heap.size w0 w'))
    case atStart => exact ⟨(t145), (20), (by first | rfl | (simp; done) | (simp [*]; done)), H', ⟨Nat.le_refl _⟩, ⟨by (with_reducible repeat (first | apply Kd.R_alloc | apply Kd.R_drewN | apply Kd.R_drew)); exact HO_0.out⟩, ⟨by repeat (first | (with_reducible first | exact HK.out | apply Kept.alloc | apply Kept.drewN | apply Kept.drew) | exact HK.out)⟩, ⟨by repeat (first | (with_reducible first | exact HB.out | apply below_alloc | apply pw_below_drewN | apply below_drew1) | exact HB.out)⟩⟩
    case round =>
     clear H'
     try clear p2
     try clear c4
     try clear c4b0
     try clear c6
     try clear p6
     try clear c7
     try clear p2
     obtain ⟨x0_2, x6_2, rfl, HA, HK2, HO_0, HK, HB⟩ := hrel
     have hl0_2 := (Kd.R_reads' HO_0.out).1
     rw [hl0_2] at HO_0
     (try simp only [hl0_2])
     cases gk with
     | zero => exact absurd HA.out (by simp [money_rest_66.l1])
     | succ k2 =>
      have H := HA.out
      clear HA
      simp only [money_rest_66.l1] at H
      by_cases c11 : x6_2 < a1
      ·rw [if_pos c11] at H
       have c11b0 : decide (x6_2 < a1) = true := decide_eq_true c11
       clear c11
       have H' := Aside0.mk H
       clear H
       go_wp2
       go_loopg [7, 8] k2 (fun kq v7 v8 w' => ∃ (x0_3 : List (S98)) (x7_3 : Int) (x8_3 : Int), v7 = .int .i64 x7_3 ∧ v8 = .int .i64 x8_3 ∧ Aside0 (money_rest_66.l2 kq x0_3 a1 x6_2 x7_3 x8_3 = some r) ∧ Aside0 (kq ≤ k2) ∧ Aside0 (Kd.R k98 98 w' w0.heap.size (fun k_ => (P0_ k_ ∨ w.heap.size ≤ k_)) (.slice Ao9 x0_2.length co9) x0_3) ∧ Aside0 (Kept w w' (fun k_ => P0_ k_)) ∧ Aside0 (Below w0.heap.size w0 w'))
       case atStart => exact ⟨(x0_2), (0), (wrap64 (2 * x6_2)), (by first | rfl | (simp; done) | (simp [*]; done)), (by first | rfl | (simp; done) | (simp [*]; done)), H', ⟨Nat.le_refl _⟩, ⟨by (try simp only [hl0_2]); (with_reducible repeat (first | apply Kd.R_alloc | apply Kd.R_drewN | apply Kd.R_drew)); exact HO_0.out⟩, ⟨by repeat (first | (with_reducible first | exact HK.out | apply Kept.alloc | apply Kept.drewN | apply Kept.drew) | exact HK.out)⟩, ⟨by repeat (first | (with_reducible first | exact HB.out | apply below_alloc | apply pw_below_drewN | apply below_drew1) | exact HB.out)⟩⟩
       case round =>
        clear H'
        try clear c1
        try clear p2
        try clear c4
        try clear c4b0
        try clear c6
        try clear p6
        try clear c7
        try clear c11
        try clear c11b0
        try clear p2
        try clear p6
        obtain ⟨x0_3, x7_3, x8_3, rfl, rfl, HA, HK3, HO_0, HK, HB⟩ := hrel
        have hl0_3 := (Kd.R_reads' HO_0.out).1
        rw [hl0_3] at HO_0
        (try simp only [hl0_3])
        cases gk with
        | zero => exact absurd HA.out (by simp [money_rest_66.l2])
        | succ k3 =>
         have H := HA.out
         clear HA
         simp only [money_rest_66.l2] at H
         by_cases c12 : x8_3 ≤ a1
         ·rw [if_pos c12] at H
          have c12b0 : decide (x8_3 ≤ a1) = true := decide_eq_true c12
          clear c12
          replace H := Option.bind_eq_some_iff.mp H
          obtain ⟨t146, A130, H⟩ := H
          replace H : (money_rest_66.l2 k3 t146 a1 x6_2 x8_3 (wrap64 (x8_3 + (wrap64 (2 * x6_2))))) = some r := H
          have A13 := Aside0.mk A130
          clear A130
          have H' := Aside0.mk H
          clear H
          go_wp2_with (first | ((with_reducible refine gate_callee (f := 75) rfl ?_); refine goesL_ (some 43) rfl rfl Try.func75 (by kernel_rfl) rfl #[.slice Ao9 x0_3.length co9, .int .i64 x7_3, .int .i64 (wrap64 (x7_3 + x6_2)), .int .i64 x8_3, .func (.func 52) #[] #[]] rfl (by (try simp only [List.map_toArray, List.map_cons, List.map_nil]); first | done | rfl | (simp only [List.length_drop, List.length_take]; rfl)) ?_; (with_reducible refine (money_rest_75.calls k3 (fun k_ => some k_ = (.slice Ao9 x0_3.length co9 : Value).ownBlock) (.slice Ao9 x0_3.length co9) x0_3 x7_3 (wrap64 (x7_3 + x6_2)) x8_3 52 t146 w0 _ ?side1 ?side2 A13.out).mono ?_); (case side1 => repeat (first | (with_reducible first | exact HB.out | apply below_alloc | apply pw_below_drewN | apply below_drew1) | exact HB.out)); (case side2 => exact Kd.R_tight rfl HO_0.out); rintro e w14 ⟨rfl, hy0, hb, hkp⟩; refine ⟨_, rfl, ?_⟩; have n0_ := Aside0.mk (Kd.R_reok rfl hy0 (fun k_ e_ => HO_0.out.1 k_ e_)); have n1_ := Aside0.mk (Kept.then_ (S := (fun k_ => P0_ k_)) (by repeat (first | (with_reducible first | exact HK.out | apply Kept.alloc | apply Kept.drewN | apply Kept.drew) | exact HK.out)) hkp (fun k_ hs_ => (fun e_ => (HO_0.out.1 k_ e_.symm)) hs_)); have n2_ := Aside0.mk (hb); clear HO_0; clear HK; clear HB; have HO_0 := n0_; have HK := n1_; have HB := n2_; clear n0_ n1_ n2_; (try clear hb); (try clear hkp); (try clear hy0)))
          (try simp only [← hl0_3])
          go_roundg k3
          case measure => have := HK1.out; have := HK2.out; have := HK3.out; omega
          case rel => exact ⟨(t146), (x8_3), (wrap64 (x8_3 + (wrap64 (2 * x6_2)))), (by first | rfl | (simp; done) | (simp [*]; done)), (by first | rfl | (simp; done) | (simp [*]; done)), H', ⟨by have := HK1.out; have := HK2.out; have := HK3.out; omega⟩, ⟨by (try simp only [hl0_2]); (try simp only [hl0_3]); (with_reducible repeat (first | apply Kd.R_alloc | apply Kd.R_drewN | apply Kd.R_drew)); exact HO_0.out⟩, ⟨by repeat (first | (with_reducible first | exact HK.out | apply Kept.alloc | apply Kept.drewN | apply Kept.drew) | exact HK.out)⟩, ⟨by repeat (first | (with_reducible first | exact HB.out | apply below_alloc | apply pw_below_drewN | apply below_drew1) | exact HB.out)⟩⟩
         ·rw [if_neg c12] at H
          have c12b0 : decide (x8_3 ≤ a1) = false := decide_eq_false c12
          clear c12
          by_cases c15 : (wrap64 (x7_3 + x6_2)) < a1
          ·rw [if_pos c15] at H
           have c15b0 : decide ((wrap64 (x7_3 + x6_2)) < a1) = true := decide_eq_true c15
           clear c15
           replace H := Option.bind_eq_some_iff.mp H
           obtain ⟨t147, A160, H⟩ := H
           replace H : (money_rest_66.l1 k3 t147 a1 (wrap64 (x6_2 * 2))) = some r := H
           have A16 := Aside0.mk A160
           clear A160
           have H' := Aside0.mk H
           clear H
           go_wp2_with (first | ((with_reducible refine gate_callee (f := 75) rfl ?_); refine goesL_ (some 60) rfl rfl Try.func75 (by kernel_rfl) rfl #[.slice Ao9 x0_3.length co9, .int .i64 x7_3, .int .i64 (wrap64 (x7_3 + x6_2)), .int .i64 a1, .func (.func 52) #[] #[]] rfl (by (try simp only [List.map_toArray, List.map_cons, List.map_nil]); first | done | rfl | (simp only [List.length_drop, List.length_take]; rfl)) ?_; (with_reducible refine (money_rest_75.calls k3 (fun k_ => some k_ = (.slice Ao9 x0_3.length co9 : Value).ownBlock) (.slice Ao9 x0_3.length co9) x0_3 x7_3 (wrap64 (x7_3 + x6_2)) a1 52 t147 w0 _ ?side1 ?side2 A16.out).mono ?_); (case side1 => repeat (first | (with_reducible first | exact HB.out | apply below_alloc | apply pw_below_drewN | apply below_drew1) | exact HB.out)); (case side2 => exact Kd.R_tight rfl HO_0.out); rintro e w17 ⟨rfl, hy0, hb, hkp⟩; refine ⟨_, rfl, ?_⟩; have n0_ := Aside0.mk (Kd.R_reok rfl hy0 (fun k_ e_ => HO_0.out.1 k_ e_)); have n1_ := Aside0.mk (Kept.then_ (S := (fun k_ => P0_ k_)) (by repeat (first | (with_reducible first | exact HK.out | apply Kept.alloc | apply Kept.drewN | apply Kept.drew) | exact HK.out)) hkp (fun k_ hs_ => (fun e_ => (HO_0.out.1 k_ e_.symm)) hs_)); have n2_ := Aside0.mk (hb); clear HO_0; clear HK; clear HB; have HO_0 := n0_; have HK := n1_; have HB := n2_; clear n0_ n1_ n2_; (try clear hb); (try clear hkp); (try clear hy0)))
           (try simp only [← hl0_2, ← hl0_3])
           go_roundg k3
           case measure => have := HK1.out; have := HK2.out; have := HK3.out; omega
           case rel => exact ⟨(t147), (wrap64 (x6_2 * 2)), (by first | rfl | (simp; done) | (simp [*]; done)), H', ⟨by have := HK1.out; have := HK2.out; have := HK3.out; omega⟩, ⟨by (try simp only [hl0_2]); (try simp only [hl0_3]); (with_reducible repeat (first | apply Kd.R_alloc | apply Kd.R_drewN | apply Kd.R_drew)); exact HO_0.out⟩, ⟨by repeat (first | (with_reducible first | exact HK.out | apply Kept.alloc | apply Kept.drewN | apply Kept.drew) | exact HK.out)⟩, ⟨by repeat (first | (with_reducible first | exact HB.out | apply below_alloc | apply pw_below_drewN | apply below_drew1) | exact HB.out)⟩⟩
          ·rw [if_neg c15] at H
           have c15b0 : decide ((wrap64 (x7_3 + x6_2)) < a1) = false := decide_eq_false c15
           clear c15
           have H' := Aside0.mk H
           clear H
           go_wp2
           (try simp only [← hl0_2, ← hl0_3])
           go_roundg k3
           case measure => have := HK1.out; have := HK2.out; have := HK3.out; omega
           case rel => exact ⟨(x0_3), (wrap64 (x6_2 * 2)), (by first | rfl | (simp; done) | (simp [*]; done)), H', ⟨by have := HK1.out; have := HK2.out; have := HK3.out; omega⟩, ⟨by (try simp only [hl0_2]); (try simp only [hl0_3]); (with_reducible repeat (first | apply Kd.R_alloc | apply Kd.R_drewN | apply Kd.R_drew)); exact HO_0.out⟩, ⟨by repeat (first | (with_reducible first | exact HK.out | apply Kept.alloc | apply Kept.drewN | apply Kept.drew) | exact HK.out)⟩, ⟨by repeat (first | (with_reducible first | exact HB.out | apply below_alloc | apply pw_below_drewN | apply below_drew1) | exact HB.out)⟩⟩
      ·rw [if_neg c11] at H
       have c11b0 : decide (x6_2 < a1) = false := decide_eq_false c11
       clear c11
       obtain rfl := Option.some.inj H
       go_wp2
       first | go_end0 | ((try simp only [Exit.inBlock, Exit.then]); refine bodyPost_ret (results_none rfl _ _ _) rfl ?_)
       exact ⟨by first | rfl | (simp [errW_none, errW_some] <;> rfl) | (simp [*, errW_none, errW_some] <;> rfl), (by first | exact (by (with_reducible repeat (first | apply Kd.R_alloc | apply Kd.R_drewN | apply Kd.R_drew)); exact HO_0.out) | (simp only [hl0_2]; exact (by (with_reducible repeat (first | apply Kd.R_alloc | apply Kd.R_drewN | apply Kd.R_drew)); exact HO_0.out))), by repeat (first | (with_reducible first | exact HB.out | apply below_alloc | apply pw_below_drewN | apply below_drew1) | exact HB.out), by repeat (first | (with_reducible first | exact HK.out | apply Kept.alloc | apply Kept.drewN | apply Kept.drew) | exact HK.out)⟩
end Go.Proofs.Ytncnhhnbjmpomaa.Q
namespace Go.Proofs.Ytncnhhnbjmpomaa.Q
open Go.RowKit Go.Proofs.YtncnhhnbjmpomaaW.PrintWords Go.Proofs.YtncnhhnbjmpomaaW.PrintLast Go.Proofs.YtncnhhnbjmpomaaW.PrintMore
attribute [local go_sem] max2_int min2_int max_two min_two max_three min_three max_four min_four   -- for this text's walks alone
set_option linter.unusedVariables false
set_option linter.unusedSimpArgs false
def money_rest_51.f (k : Nat) (l0 : List (S98)) (a1 : Nat) : Option ((List (S98))) := (money_rest_66.f k l0 (l0.length : Int) 52).bind fun t148 => (some t148)
set_option maxHeartbeats 8000000 in
set_option maxRecDepth 100000 in
theorem money_rest_51.calls (k : Nat) (P0_ : Nat → Prop) (u9000_ : Value) (l0 : List (S98)) (a1 : Nat) (r : List (S98)) (w0 w : World) (hB : Below w0.heap.size w0 w) (ho0 : Kd.R k98 98 w w0.heap.size P0_ u9000_ l0) (h : money_rest_51.f k l0 a1 = some r) :
  Calls Try.prog 51 #[u9000_, .func (.func 52) #[] #[]] w fun e w' => e = .returned (.tuple #[]) ∧ Kd.R k98 98 w' w0.heap.size (fun k_ => (P0_ k_ ∨ w.heap.size ≤ k_)) u9000_ r ∧ Below w0.heap.size w0 w' ∧ Kept w w' (fun k_ => P0_ k_) := by
 have HO0 := Aside0.mk (show Kd.R k98 98 w w0.heap.size (fun k_ => (P0_ k_ ∨ w.heap.size ≤ k_)) u9000_ l0 from Kd.R_mono ho0 (fun k_ hk => (.inl hk)))
 have HK := Aside0.mk (Kept.refl w (fun k_ => P0_ k_))
 have HW0 := Aside0.mk hB.size
 have HB := Aside0.mk hB
 clear hB
 have H : ((money_rest_66.f k l0 (l0.length : Int) 52).bind fun t148 => (some t148)) = some r := h
 clear h
 replace H := Option.bind_eq_some_iff.mp H
 obtain ⟨t148, A30, H⟩ := H
 replace H : (some t148) = some r := H
 have A3 := Aside0.mk A30
 clear A30
 obtain rfl := Option.some.inj H
 obtain ⟨Ao4, co4, eo4⟩ := Kd.R_slice HO0.out
 subst eo4
 go_enter Try.func51, Try.ntmps51
 go_wp2_with (first | ((with_reducible refine gate_callee (f := 66) rfl ?_); refine goesL_ (some 8) rfl rfl Try.func66 (by kernel_rfl) rfl #[.slice Ao4 l0.length co4, .int .i64 (l0.length : Int), .func (.func 52) #[] #[]] rfl (by (try simp only [List.map_toArray, List.map_cons, List.map_nil]); first | done | rfl | (simp only [List.length_drop, List.length_take]; rfl)) ?_; (with_reducible refine (money_rest_66.calls k (fun k_ => some k_ = (.slice Ao4 l0.length co4 : Value).ownBlock) (.slice Ao4 l0.length co4) l0 (l0.length : Int) 52 t148 w0 _ ?side1 ?side2 A3.out).mono ?_); (case side1 => repeat (first | (with_reducible first | exact HB.out | apply below_alloc | apply pw_below_drewN | apply below_drew1) | exact HB.out)); (case side2 => exact Kd.R_tight rfl HO0.out); rintro e w5 ⟨rfl, hy0, hb, hkp⟩; refine ⟨_, rfl, ?_⟩; have n0_ := Aside0.mk (Kd.R_reok rfl hy0 (fun k_ e_ => HO0.out.1 k_ e_)); have n1_ := Aside0.mk (Kept.then_ (S := (fun k_ => P0_ k_)) (by repeat (first | (with_reducible first | exact HK.out | apply Kept.alloc | apply Kept.drewN | apply Kept.drew) | exact HK.out)) hkp (fun k_ hs_ => (fun e_ => (HO0.out.1 k_ e_.symm)) hs_)); have n2_ := Aside0.mk (hb); clear HO0; clear HK; clear HB; have HO0 := n0_; have HK := n1_; have HB := n2_; clear n0_ n1_ n2_; (try clear hb); (try clear hkp); (try clear hy0)))
 first | go_end0 | ((try simp only [Exit.inBlock, Exit.then]); refine bodyPost_ret (results_none rfl _ _ _) rfl ?_)
 exact ⟨by first | rfl | (simp [errW_none, errW_some] <;> rfl) | (simp [*, errW_none, errW_some] <;> rfl), by (with_reducible repeat (first | apply Kd.R_alloc | apply Kd.R_drewN | apply Kd.R_drew)); exact HO0.out, by repeat (first | (with_reducible first | exact HB.out | apply below_alloc | apply pw_below_drewN | apply below_drew1) | exact HB.out), by repeat (first | (with_reducible first | exact HK.out | apply Kept.alloc | apply Kept.drewN | apply Kept.drew) | exact HK.out)⟩
end Go.Proofs.Ytncnhhnbjmpomaa.Q
namespace Go.Proofs.Ytncnhhnbjmpomaa
open Go.RowKit Go.Proofs.Ytncnhhnbjmpomaa.Q Go.Sort
set_option linter.unusedVariables false
set_option linter.unusedSimpArgs false
theorem restsF_get (t all : Int) : ∀ (l : List Int) (i k : Nat) (h : k < (restsF t all i l).length), (restsF t all i l)[k] = ⟨((i + k : Nat) : Int), t * l.getD k 0 % all⟩
  | [], i, k, h => by simp [restsF] at h
  | w :: l, i, 0, h => by simp [restsF]
  | w :: l, i, k + 1, h => by
    have := restsF_get t all l (i + 1) k (by simpa [restsF] using h)
    simp only [restsF, List.getElem_cons_succ, this, List.getD_cons_succ]
    congr 2; omega
theorem perm_sum {l m : List Int} (h : l.Perm m) : l.sum = m.sum := by
  induction h with
  | nil => rfl
  | cons x _ ih => simp [ih]
  | swap x y l => simp; omega
  | trans _ _ ih1 ih2 => exact ih1.trans ih2
def ordF (t : Int) (ws : List Int) : List S98 := (srt (restsF t ws.sum 0 ws).toArray).toList
def rvF (t : Int) (ws : List Int) (i : Nat) : Int := t * ws.getD i 0 % ws.sum
theorem ord_perm (t : Int) (ws : List Int) : (ordF t ws).Perm (restsF t ws.sum 0 ws) := (srt_perm _).1
theorem ord_len (t : Int) (ws : List Int) : (ordF t ws).length = ws.length := by rw [(ord_perm t ws).length_eq, restsF_len]
theorem ord_sorted (t : Int) (ws : List Int) : SortedD (ordF t ws) := by
  refine srt_sorted _ fun p q hq hp => ?_
  have hp' : p < (restsF t ws.sum 0 ws).length := by simpa using hp
  rw [getElem!_pos _ p hp, getElem!_pos _ q (by omega)]
  simp only [List.getElem_toArray]
  rw [restsF_get, restsF_get]
  simp; omega
theorem ord_mem (t : Int) (ws : List Int) (r : S98) (h : r ∈ ordF t ws) : ∃ i : Nat, i < ws.length ∧ r = ⟨(i : Int), rvF t ws i⟩ := by
  have h1 := (ord_perm t ws).mem_iff.1 h
  obtain ⟨k, hk, he⟩ := List.getElem_of_mem h1
  rw [restsF_get] at he
  refine ⟨k, by rwa [restsF_len] at hk, ?_⟩
  rw [← he]; unfold rvF; simp
theorem mem_ord (t : Int) (ws : List Int) (i : Nat) (h : i < ws.length) : (⟨(i : Int), rvF t ws i⟩ : S98) ∈ ordF t ws := by
  refine (ord_perm t ws).mem_iff.2 ?_
  have hk : i < (restsF t ws.sum 0 ws).length := by rw [restsF_len]; exact h
  have := List.getElem_mem hk
  rw [restsF_get] at this
  unfold rvF; simpa using this
theorem sum_le_of : ∀ (l : List S98) (c : Int), (∀ r ∈ l, r.f1 ≤ c) → (l.map fun r => r.f1).sum ≤ l.length * c
  | [], c, _ => by simp
  | r :: l, c, h => by
    have h1 := sum_le_of l c (fun x hx => h x (by simp [hx]))
    have h2 := h r (by simp)
    have e : (((r :: l).length : Nat) : Int) * c = (l.length : Int) * c + c := by rw [List.length_cons, Int.natCast_add, Int.add_mul]; simp
    rw [e]; simp; omega
theorem ord_pos (t : Int) (ws : List Int) (ht : 0 ≤ t) (hw : ∀ x ∈ ws, 0 ≤ x) (ha : 0 < ws.sum) (j : Nat) (hj : (j : Int) < leftF t ws.sum ws) (hjl : j < (ordF t ws).length) : 0 < ((ordF t ws)[j]).f1 := by
  have hS := quos_sum t ws.sum ha ws
  have hp := perm_sum ((ord_perm t ws).map fun r => r.f1)
  have hall : ∀ r ∈ ordF t ws, 0 ≤ r.f1 ∧ r.f1 ≤ ws.sum - 1 := by
    intro r hr
    obtain ⟨i, _, rfl⟩ := ord_mem t ws r hr
    have h1 := Int.emod_nonneg (t * ws.getD i 0) (b := ws.sum) (by omega)
    have h2 := Int.emod_lt_of_pos (t * ws.getD i 0) ha
    unfold rvF; simp only []; omega
  apply Classical.byContradiction
  intro hn
  have hs := ord_sorted t ws
  have hsp : ordF t ws = (ordF t ws).take j ++ (ordF t ws).drop j := (List.take_append_drop j _).symm
  have h1 := sum_le_of ((ordF t ws).take j) (ws.sum - 1) (fun r hr => (hall r (List.mem_of_mem_take hr)).2)
  have h2 := sum_le_of ((ordF t ws).drop j) 0 (fun r hr => by
    obtain ⟨k, hk, he⟩ := List.getElem_of_mem hr
    rw [List.getElem_drop] at he
    by_cases hk0 : k = 0
    · subst hk0; rw [← he]; simp only [Nat.add_zero]; omega
    · have h3 := List.pairwise_iff_getElem.1 hs j (j + k) hjl (by simp at hk; omega) (by omega)
      rw [he] at h3; omega)
  have h3 : ((ordF t ws).map fun r => r.f1).sum = (((ordF t ws).take j).map fun r => r.f1).sum + (((ordF t ws).drop j).map fun r => r.f1).sum := by
    conv => lhs; rw [hsp, List.map_append, List.sum_append]
  rw [List.length_take, Nat.min_eq_left (by omega)] at h1
  rw [Int.mul_zero] at h2
  unfold leftF at hj
  rw [← hp] at hS
  generalize (quosF t ws.sum ws).sum = S at *
  have e : ws.sum * (t - S) = ((ordF t ws).map fun r => r.f1).sum := by rw [Int.mul_sub, Int.mul_comm ws.sum t]; omega
  have h4 : ws.sum * ((j : Int) + 1) ≤ ws.sum * (t - S) := Int.mul_le_mul_of_nonneg_left (by omega) (by omega)
  have h5 : ws.sum * ((j : Int) + 1) = (j : Int) * (ws.sum - 1) + j + ws.sum := by rw [Int.mul_add, Int.mul_sub, Int.mul_comm ws.sum]; omega
  omega
def alive (t : Int) (ws : List Int) (j i : Nat) : Prop := ∀ r ∈ (ordF t ws).take j, r.f0 ≠ (i : Int)
theorem alive_drop (t : Int) (ws : List Int) (j i : Nat) (hi : i < ws.length) (h : alive t ws j i) : (⟨(i : Int), rvF t ws i⟩ : S98) ∈ (ordF t ws).drop j := by
  have hm := mem_ord t ws i hi
  rw [← List.take_append_drop j (ordF t ws)] at hm
  rcases List.mem_append.1 hm with h1 | h1
  · exact absurd rfl (h _ h1)
  · exact h1
theorem ord_f0 (t : Int) (ws : List Int) (j k : Nat) (hj : j < k) (hk : k < (ordF t ws).length) : ((ordF t ws)[j]).f0 ≠ ((ordF t ws)[k]).f0 := by
  have h := List.pairwise_iff_getElem.1 (ord_sorted t ws) j k (by omega) hk hj
  obtain ⟨a, _, ea⟩ := ord_mem t ws _ (List.getElem_mem (show j < (ordF t ws).length by omega))
  obtain ⟨b, _, eb⟩ := ord_mem t ws _ (List.getElem_mem hk)
  rw [ea, eb] at h ⊢
  simp only [] at h ⊢
  intro e
  obtain rfl : a = b := by omega
  omega
theorem pick_unique (t : Int) (ws : List Int) (ht : 0 ≤ t) (hw : ∀ x ∈ ws, 0 ≤ x) (ha : 0 < ws.sum) (j : Nat) (hj : (j : Int) < leftF t ws.sum ws) (hjl : j < (ordF t ws).length) (b : Nat) (hb : b < ws.length) (hab : alive t ws j b)
    (hmax : ∀ m, m < ws.length → alive t ws j m → rvF t ws m ≤ rvF t ws b) (hfst : ∀ m, m < b → alive t ws j m → rvF t ws m < rvF t ws b ∨ rvF t ws b = 0) : (ordF t ws)[j] = ⟨(b : Int), rvF t ws b⟩ := by
  have hpos := ord_pos t ws ht hw ha j hj hjl
  obtain ⟨p, hp, ep⟩ := ord_mem t ws _ (List.getElem_mem hjl)
  rw [ep] at hpos
  simp only [] at hpos
  have hap : alive t ws j p := by
    intro r hr he
    obtain ⟨k, hk, e⟩ := List.getElem_of_mem hr
    rw [List.getElem_take] at e
    simp at hk
    refine ord_f0 t ws k j (by omega) hjl ?_
    rw [e, ep, he]
  have h1 := hmax p hp hap
  have hd := alive_drop t ws j b hb hab
  obtain ⟨k, hk, e⟩ := List.getElem_of_mem hd
  rw [List.getElem_drop] at e
  by_cases hk0 : k = 0
  · subst hk0; simpa using e
  · have h2 := List.pairwise_iff_getElem.1 (ord_sorted t ws) j (j + k) hjl (by simp at hk; omega) (by omega)
    rw [e, ep] at h2
    simp only [] at h2
    rcases h2 with h2 | ⟨h2, h3⟩
    · omega
    · have := hfst p (by omega) hap
      omega
theorem alive_some (t : Int) (ws : List Int) (ht : 0 ≤ t) (hw : ∀ x ∈ ws, 0 ≤ x) (ha : 0 < ws.sum) (j : Nat) (hj : (j : Int) < leftF t ws.sum ws) (hjl : j < (ordF t ws).length) : ∃ p, p < ws.length ∧ alive t ws j p ∧ 0 < rvF t ws p := by
  have hpos := ord_pos t ws ht hw ha j hj hjl
  obtain ⟨p, hp, ep⟩ := ord_mem t ws _ (List.getElem_mem hjl)
  rw [ep] at hpos
  refine ⟨p, hp, ?_, hpos⟩
  intro r hr he
  obtain ⟨k, hk, e⟩ := List.getElem_of_mem hr
  rw [List.getElem_take] at e
  simp at hk
  refine ord_f0 t ws k j (by omega) hjl ?_
  rw [e, ep, he]
end Go.Proofs.Ytncnhhnbjmpomaa
namespace Go.Proofs.Ytncnhhnbjmpomaa.Q
open Go.RowKit Go.Proofs.YtncnhhnbjmpomaaW.PrintWords Go.Proofs.Ytncnhhnbjmpomaa
set_option linter.unusedVariables false
set_option linter.unusedSimpArgs false
theorem ins_in (A U B : List S98) (x : S98) (a b i : Nat) (ha : a = A.length) : ∀ (n : Nat) (T1 T2 : List S98), T1.length = n → So (T1 ++ T2) → (∀ y ∈ T2, Ra x y) → Lo T1 [x] → (A ++ (T1 ++ x :: (T2 ++ (U ++ B)))).length < 100000 → i < 100000 →
    ∃ T, T.Perm (x :: (T1 ++ T2)) ∧ So T ∧ ∀ v, EvT (fun k => money_rest_74.l0 k (A ++ (T ++ (U ++ B))) (a : Nat) (b : Nat) ((i + 1 : Nat) : Int)) v → EvT (fun k => money_rest_74.l1 k (A ++ (T1 ++ x :: (T2 ++ (U ++ B)))) (a : Nat) (b : Nat) (i : Nat) ((A.length + T1.length : Nat) : Int)) v
  | 0, T1, T2, hn, hs, h2, hlo, hl, hi => by
    obtain rfl := List.length_eq_zero_iff.1 hn
    refine ⟨x :: T2, List.Perm.refl _, List.pairwise_cons.2 ⟨h2, hs⟩, fun v hv => EvT.step (fun k => ?_) hv⟩
    simp only [money_rest_74.l1]
    rw [if_neg (by simp [ha]), nx _ (by omega)]
    rfl
  | n + 1, T1, T2, hn, hs, h2, hlo, hl, hi => by
    obtain ⟨T', p, rfl⟩ : ∃ T' p, T1 = T' ++ [p] := ⟨T1.dropLast, T1.getLast (by intro h; simp [h] at hn), (List.dropLast_concat_getLast _).symm⟩
    have hn' : T'.length = n := by simpa using hn
    have hlen : (A ++ ((T' ++ [p]) ++ x :: (T2 ++ (U ++ B)))).length = A.length + T'.length + T2.length + U.length + B.length + 2 := by simp; omega
    have hpl : (T' ++ [p]).length = T'.length + 1 := by simp
    have el : A ++ ((T' ++ [p]) ++ x :: (T2 ++ (U ++ B))) = (A ++ T') ++ p :: x :: (T2 ++ (U ++ B)) := by simp
    have hap : (A ++ T').length = A.length + T'.length := List.length_append
    have w1 : Hid (wrap64 (((A.length + (T' ++ [p]).length : Nat) : Int) - 1) = ((A ++ T').length : Int)) := by
      show _ = _
      rw [swn (x := ((A.length + (T' ++ [p]).length : Nat) : Int) - 1) (by omega) (by omega), hpl, hap]; omega
    have e2 : ((A.length + (T' ++ [p]).length : Nat) : Int) = (((A ++ T').length + 1 : Nat) : Int) := by omega
    have gx : ((A ++ T') ++ p :: x :: (T2 ++ (U ++ B)))[(A ++ T').length + 1]'(by simp <;> omega) = x := by
      rw [List.getElem_append_right (by omega)]; simp
    have gp : ((A ++ T') ++ p :: x :: (T2 ++ (U ++ B)))[(A ++ T').length]'(by simp) = p := by simp
    obtain ⟨t, ht, hiff⟩ := cmp_ok x p
    obtain ⟨s1, s2, s3⟩ := List.pairwise_append.1 hs
    by_cases h : p.f1 < x.f1
    · have ht0 := hiff.2 h
      have hs' : So (T' ++ (p :: T2)) := by simpa using hs
      obtain ⟨T, m1, m2, m3⟩ := ins_in A U B x a b i ha n T' (p :: T2) hn' hs' (fun y hy => by
        rcases List.mem_cons.1 hy with rfl | hy
        · exact .inl h
        · exact h2 y hy) (hlo.perm (fun y hy => by simp [hy]) (fun y hy => hy)) (by simp at hl ⊢; omega) hi
      refine ⟨T, m1.trans (by simp), m2, fun v hv => EvT.step (fun k => ?_) (m3 v hv)⟩
      simp only [money_rest_74.l1]
      rw [if_pos (by omega), if_pos (by omega), if_pos (by omega), w1.out, if_pos (by omega), if_pos (by omega), e2, el, rd98 _ _ (by simp <;> omega), rd98 _ _ (by simp <;> omega), gx, gp, ht, Option.bind_some, if_pos ht0, Int.toNat_natCast, Int.toNat_natCast]
      have hx := exchD (A ++ T') p x (T2 ++ (U ++ B))
      rw [rd98 _ _ (by simp <;> omega), rd98 _ _ (by simp <;> omega), gx, gp] at hx
      have e3 : ((A ++ T') ++ x :: p :: (T2 ++ (U ++ B))) = A ++ (T' ++ x :: (p :: T2 ++ (U ++ B))) := by simp
      rw [hx, e3, hap]
    · have ht0 : ¬ t < 0 := fun k => h (hiff.1 k)
      have hpx : Ra p x := by
        have := hlo p (by simp) x (by simp)
        unfold Ra; omega
      refine ⟨(T' ++ [p]) ++ (x :: T2), ?_, ?_, fun v hv => EvT.step (fun k => ?_) hv⟩
      · exact List.perm_middle
      · refine pw_app s1 (List.pairwise_cons.2 ⟨h2, s2⟩) (fun y hy z hz => ?_)
        have hyx : Ra y x := by
          rcases List.mem_append.1 hy with hy | hy
          · have := (List.pairwise_append.1 s1).2.2 y hy p (by simp)
            exact this.trans hpx
          · rw [List.mem_singleton.1 hy]; exact hpx
        rcases List.mem_cons.1 hz with rfl | hz
        · exact hyx
        · exact s3 y hy z hz
      · simp only [money_rest_74.l1]
        rw [if_pos (by omega), if_pos (by omega), if_pos (by omega), w1.out, if_pos (by omega), if_pos (by omega), e2]
        have e4 : A ++ ((T' ++ [p]) ++ (x :: T2) ++ (U ++ B)) = (A ++ T') ++ p :: x :: (T2 ++ (U ++ B)) := by simp
        rw [e4, el, rd98 _ _ (by simp <;> omega), rd98 _ _ (by simp <;> omega), gx, gp, ht, Option.bind_some, if_neg ht0, nx _ (by omega)]
theorem ins_out (A B : List S98) : ∀ (U T : List S98), So T → Lo T U → U.Pairwise (fun x y => x.f0 < y.f0) → (A ++ (T ++ (U ++ B))).length < 100000 →
    ∃ M, M.Perm (T ++ U) ∧ So M ∧ EvT (fun k => money_rest_74.l0 k (A ++ (T ++ (U ++ B))) (A.length : Nat) ((A.length + T.length + U.length : Nat) : Int) ((A.length + T.length : Nat) : Int)) (A ++ (M ++ B))
  | [], T, hs, hlo, hu, hl => ⟨T, by simp, hs, EvT.done fun k => by simp only [money_rest_74.l0]; rw [if_neg (by simp)]; rfl⟩
  | x :: U, T, hs, hlo, hu, hl => by
    obtain ⟨u1, u2⟩ := List.pairwise_cons.1 hu
    have hlen : (A ++ (T ++ (x :: U ++ B))).length = A.length + T.length + U.length + B.length + 1 := by simp; omega
    obtain ⟨T', m1, m2, m3⟩ := ins_in A U B x A.length (A.length + T.length + (x :: U).length) (A.length + T.length) rfl T.length T [] rfl (by simpa using hs) (by simp) (fun p hp q hq => hlo p hp q (by simp at hq; simp [hq])) (by simp at hl ⊢; omega) (by omega)
    rw [List.append_nil] at m1
    have hT' : T'.length = T.length + 1 := by rw [m1.length_eq]; simp
    obtain ⟨M, n1, n2, n3⟩ := ins_out A B U T' m2 (fun p hp q hq => by
      rcases List.mem_cons.1 (m1.mem_iff.1 hp) with rfl | hp
      · exact u1 q hq
      · exact hlo p hp q (by simp [hq])) u2 (by simp at hl ⊢; omega)
    refine ⟨M, n1.trans ((m1.append_right U).trans ?_), n2, ?_⟩
    · have : (x :: T ++ U).Perm (T ++ x :: U) := List.perm_middle.symm
      exact this
    · have e1 : A.length + T'.length + U.length = A.length + T.length + (x :: U).length := by simp; omega
      have e2 : A.length + T'.length = A.length + T.length + 1 := by omega
      rw [e1, e2] at n3
      refine EvT.step (fun k => ?_) (m3 _ n3)
      simp only [money_rest_74.l0]
      rw [if_pos (by simp <;> omega)]
      rfl
theorem ins_ok (A S B : List S98) (c : Nat) (hu : S.Pairwise (fun x y => x.f0 < y.f0)) (hl : (A ++ (S ++ B)).length < 100000) :
    ∃ M, M.Perm S ∧ So M ∧ EvT (fun k => money_rest_74.f k (A ++ (S ++ B)) (A.length : Nat) ((A.length + S.length : Nat) : Int) c) (A ++ (M ++ B)) := by
  cases S with
  | nil =>
    refine ⟨[], List.Perm.refl _, List.Pairwise.nil, EvT.congr (fun k => ?_) (EvT.done (f := fun k => money_rest_74.l0 k (A ++ ([] ++ B)) (A.length : Nat) (A.length : Nat) ((A.length + 1 : Nat) : Int)) (fun k => by simp only [money_rest_74.l0]; rw [if_neg (by omega)]))⟩
    unfold money_rest_74.f
    rw [nx _ (by simp at hl; omega)]; rfl
  | cons x S =>
    obtain ⟨u1, u2⟩ := List.pairwise_cons.1 hu
    obtain ⟨M, m1, m2, m3⟩ := ins_out A B S [x] (List.pairwise_singleton _ _) (fun p hp q hq => by rw [List.mem_singleton.1 hp]; exact u1 q hq) u2 (by simpa using hl)
    refine ⟨M, m1, m2, EvT.congr (fun k => ?_) m3⟩
    unfold money_rest_74.f
    rw [nx _ (by simp at hl; omega)]
    congr 1
    simp; omega
theorem cut3 (l : List S98) (hl : 20 ≤ l.length) : ∃ P Q, l = P ++ Q ∧ P.length = 20 := ⟨l.take 20, l.drop 20, (List.take_append_drop _ _).symm, by rw [List.length_take]; omega⟩
theorem stable_ok (l : List S98) (c : Nat) (hu : l.Pairwise (fun x y => x.f0 < y.f0)) (h40 : l.length ≤ 40) :
    ∃ M, M.Perm l ∧ So M ∧ EvT (fun k => money_rest_66.f k l (l.length : Int) c) M := by
  by_cases h20 : l.length < 20
  · obtain ⟨M, m1, m2, m3⟩ := ins_ok [] l [] 52 hu (by simp; omega)
    simp only [List.nil_append, List.append_nil, List.length_nil, Nat.zero_add] at m3
    refine ⟨M, m1, m2, ?_⟩
    refine EvT.step (f := fun k => money_rest_66.l0 k l (l.length : Int) 20 0 20) (g := fun k => (money_rest_74.f k l 0 (l.length : Int) 52).bind fun t145 => money_rest_66.l1 k t145 (l.length : Int) 20) (fun k => ?_) (EvT.bind (F := fun k t145 => money_rest_66.l1 k t145 (l.length : Int) 20) m3 (EvT.done fun k => ?_))
    · simp only [money_rest_66.l0]; rw [if_neg (by omega)]
    · simp only [money_rest_66.l1]; rw [if_neg (by omega)]
  obtain ⟨P, Q, rfl, hP⟩ := cut3 l (by omega)
  obtain ⟨u1, u2, u3⟩ := List.pairwise_append.1 hu
  have hPQ : (P ++ Q).length = P.length + Q.length := by simp
  obtain ⟨M1, a1, a2, a3⟩ := ins_ok [] P Q 52 u1 (by simp; omega)
  have hM1 : M1.length = 20 := by rw [a1.length_eq]; exact hP
  obtain ⟨M2, b1, b2, b3⟩ := ins_ok M1 Q [] 52 u2 (by simp; omega)
  have hM2 : M2.length = Q.length := b1.length_eq
  simp only [List.nil_append, List.append_nil, List.length_nil, Nat.zero_add] at a3 b3
  rw [hP] at a3
  rw [hM1] at b3
  have hlo : Lo M1 M2 := fun p hp q hq => u3 p (a1.mem_iff.1 hp) q (b1.mem_iff.1 hq)
  -- behind the blocks: one merge, where there is a second block
  obtain ⟨M, m1, m2, m3⟩ : ∃ M, M.Perm (M1 ++ M2) ∧ So M ∧ EvT (fun k => money_rest_66.l1 k (M1 ++ M2) ((P ++ Q).length : Int) 20) M := by
    by_cases hq0 : Q.length = 0
    · have e2 : M2 = [] := List.length_eq_zero_iff.1 (by omega)
      subst e2
      refine ⟨M1, by simp, a2, EvT.done fun k => ?_⟩
      simp only [money_rest_66.l1]
      rw [if_neg (by omega), List.append_nil]
    · obtain ⟨M, m1, m2, m3⟩ := sym_ok (M1.length + M2.length) [] M1 M2 [] (Nat.le_refl _) (by omega) (by omega) a2 b2 hlo (by simp; omega)
      simp only [List.nil_append, List.append_nil, List.length_nil, Nat.zero_add] at m3
      rw [hM1, hM2] at m3
      have hw : Hid (wrap64 (2 * 20) = 40 ∧ wrap64 (0 + 20) = 20 ∧ wrap64 (20 * 2) = 40 ∧ wrap64 (40 + 20) = 60) := by
        show _ ∧ _ ∧ _ ∧ _
        unfold wrap64; omega
      have hend : EvT (fun k => money_rest_66.l1 k M ((P ++ Q).length : Int) 40) M := EvT.done fun k => by
        simp only [money_rest_66.l1]; rw [if_neg (by omega)]
      refine ⟨M, m1, m2, EvT.step (g := fun k => money_rest_66.l2 k (M1 ++ M2) ((P ++ Q).length : Int) 20 0 40) (fun k => by simp only [money_rest_66.l1]; rw [if_pos (by omega), hw.out.1]) ?_⟩
      by_cases h4 : Q.length = 20
      · have e0 : ((20 + Q.length : Nat) : Int) = 40 := by omega
        rw [e0] at m3
        refine EvT.step (g := fun k => (money_rest_75.f k (M1 ++ M2) 0 20 40 52).bind fun t146 => money_rest_66.l2 k t146 ((P ++ Q).length : Int) 20 40 80) (fun k => ?_) (EvT.bind (F := fun k t146 => money_rest_66.l2 k t146 ((P ++ Q).length : Int) 20 40 80) m3 (EvT.step (g := fun k => money_rest_66.l1 k M ((P ++ Q).length : Int) 40) (fun k => ?_) hend))
        · have hw2 : Hid (wrap64 (40 + 40) = 80) := by show _ = _; unfold wrap64; omega
          simp only [money_rest_66.l2]
          rw [if_pos (by omega), hw.out.2.1, hw.out.1, hw2.out]
        · simp only [money_rest_66.l2]
          rw [if_neg (by omega), hw.out.2.2.2, if_neg (by omega), hw.out.2.2.1]
      · have e0 : ((20 + Q.length : Nat) : Int) = ((P ++ Q).length : Int) := by omega
        rw [e0] at m3
        refine EvT.step (g := fun k => (money_rest_75.f k (M1 ++ M2) 0 20 ((P ++ Q).length : Int) 52).bind fun t147 => money_rest_66.l1 k t147 ((P ++ Q).length : Int) 40) (fun k => ?_) (EvT.bind (F := fun k t147 => money_rest_66.l1 k t147 ((P ++ Q).length : Int) 40) m3 hend)
        simp only [money_rest_66.l2]
        rw [if_neg (by omega), hw.out.2.1, if_pos (by omega), hw.out.2.2.1]
  refine ⟨M, m1.trans (a1.append b1), m2, ?_⟩
  have w1 : Hid (wrap64 (20 + 20) = 40 ∧ wrap64 (40 + 20) = 60) := by show _ ∧ _; unfold wrap64; omega
  have hs2 : EvT (fun k => money_rest_66.l0 k (M1 ++ Q) ((P ++ Q).length : Int) 20 20 40) M := by
    by_cases h4 : Q.length = 20
    · have e0 : ((20 + Q.length : Nat) : Int) = 40 := by omega
      rw [e0] at b3
      obtain ⟨M3, d1, d2, d3⟩ := ins_ok (M1 ++ M2) [] [] 52 List.Pairwise.nil (by simp; omega)
      have e3 : M3 = [] := d1.eq_nil
      subst e3
      have e5 : (((M1 ++ M2).length : Nat) : Int) = 40 := by simp; omega
      have e6 : (((M1 ++ M2).length + ([] : List S98).length : Nat) : Int) = 40 := by simp; omega
      rw [e6, e5] at d3
      simp only [List.nil_append, List.append_nil] at d3
      have e7 : ((P ++ Q).length : Int) = 40 := by omega
      refine EvT.step (g := fun k => (money_rest_74.f k (M1 ++ Q) 20 40 52).bind fun t144 => money_rest_66.l0 k t144 ((P ++ Q).length : Int) 20 40 60) (fun k => ?_) (EvT.bind (F := fun k t144 => money_rest_66.l0 k t144 ((P ++ Q).length : Int) 20 40 60) b3 ?_)
      · simp only [money_rest_66.l0]
        rw [if_pos (by omega), w1.out.2]
      · refine EvT.step (g := fun k => (money_rest_74.f k (M1 ++ M2) 40 ((P ++ Q).length : Int) 52).bind fun t145 => money_rest_66.l1 k t145 ((P ++ Q).length : Int) 20) (fun k => ?_) (EvT.bind (F := fun k t145 => money_rest_66.l1 k t145 ((P ++ Q).length : Int) 20) (v := M1 ++ M2) (by rw [e7]; exact d3) m3)
        simp only [money_rest_66.l0]
        rw [if_neg (by omega)]
    · have e0 : ((20 + Q.length : Nat) : Int) = ((P ++ Q).length : Int) := by omega
      rw [e0] at b3
      refine EvT.step (g := fun k => (money_rest_74.f k (M1 ++ Q) 20 ((P ++ Q).length : Int) 52).bind fun t145 => money_rest_66.l1 k t145 ((P ++ Q).length : Int) 20) (fun k => ?_) (EvT.bind (F := fun k t145 => money_rest_66.l1 k t145 ((P ++ Q).length : Int) 20) b3 m3)
      simp only [money_rest_66.l0]
      rw [if_neg (by omega)]
  refine EvT.step (f := fun k => money_rest_66.l0 k (P ++ Q) ((P ++ Q).length : Int) 20 0 20) (g := fun k => (money_rest_74.f k (P ++ Q) 0 20 52).bind fun t144 => money_rest_66.l0 k t144 ((P ++ Q).length : Int) 20 20 40) (fun k => ?_) (EvT.bind (F := fun k t144 => money_rest_66.l0 k t144 ((P ++ Q).length : Int) 20 20 40) a3 hs2)
  simp only [money_rest_66.l0]
  rw [if_pos (by omega), w1.out.1]
theorem sort_ok (t : Int) (ws : List Int) (c : Nat) (h40 : ws.length ≤ 40) : EvT (fun k => money_rest_51.f k (restsF t ws.sum 0 ws) c) (ordF t ws) := by
  have hu : (restsF t ws.sum 0 ws).Pairwise (fun x y => x.f0 < y.f0) := by
    rw [List.pairwise_iff_getElem]
    intro i j hi hj hij
    rw [restsF_get, restsF_get]
    show ((0 + i : Nat) : Int) < ((0 + j : Nat) : Int)
    omega
  obtain ⟨M, m1, m2, m3⟩ := stable_ok (restsF t ws.sum 0 ws) 52 hu (by rw [restsF_len]; exact h40)
  have e : M = ordF t ws := by
    refine List.Perm.eq_of_pairwise (le := Ra) (fun a b _ _ h1 h2 => ?_) m2 (ord_sorted t ws) (m1.trans (ord_perm t ws).symm)
    unfold Ra at h1 h2; omega
  rw [← e]
  unfold money_rest_51.f
  exact EvT.bind (F := fun k t => some t) m3 (EvT.const _)
end Go.Proofs.Ytncnhhnbjmpomaa.Q
namespace Go.Proofs.Ytncnhhnbjmpomaa
open Go.RowKit Go.Proofs.Ytncnhhnbjmpomaa.Q Go.Proofs.Kq Go.Proofs.YtncnhhnbjmpomaaW.PrintWords
set_option linter.unusedVariables false
set_option linter.unusedSimpArgs false
theorem reps98 (w : World) (base : Nat) (ok : Nat → Prop) : ∀ xs : List S98, Reps (k98.M w base ok) 2 xs (xs.flatMap e98)
  | [] => Reps.none _ _
  | x :: xs => Reps.front (c := e98 x) (cs := xs.flatMap e98) (k98_mkM w base ok x) rfl (reps98 w base ok xs) (by simp)
theorem flatR98 {w : World} {base : Nat} {ok : Nat → Prop} : ∀ (xs : List S98) (cs : List Value), Reps (k98.M w base ok) 2 xs cs → cs = xs.flatMap e98
  | [], cs, h => by
    have := h.1
    simp at this
    simp [this]
  | x :: xs, cs, h => by
    have h0 := h.2 0 x rfl
    have hl := h.1
    simp only [Nat.zero_mul, List.drop_zero] at h0
    have e := k98_openM h0
    have ih := flatR98 xs (cs.drop 2) ⟨by rw [List.length_drop, hl]; simp; omega, fun j p hj => by
      have := h.2 (j + 1) p (by simpa using hj)
      rw [List.drop_drop]
      rwa [show 2 + j * 2 = (j + 1) * 2 by omega]⟩
    have h2 := List.take_append_drop 2 cs
    rw [e, ih] at h2
    rw [← h2]
    rfl
theorem R98_of {w : World} {base g n cap : Nat} {xs : List S98} (h : Own e98 2 98 w base (.slice (some ⟨g, 0, none⟩) n cap) xs) : Kd.R k98 98 w base (fun k => k = g) (.slice (some ⟨g, 0, none⟩) n cap) xs :=
  ⟨fun k hk => by simp [Value.ownBlock] at hk; exact hk.symm, xs.flatMap e98, h, reps98 _ _ _ _⟩
theorem own_of_R98 {w : World} {base : Nat} {ok : Nat → Prop} {v : Value} {xs : List S98} (h : Kd.R k98 98 w base ok v xs) : Own e98 2 98 w base v xs := by
  obtain ⟨_, inner, ho, hr⟩ := h
  have e := flatR98 xs inner hr
  subst e
  exact ho
theorem sort40 (t : Int) (ws : List Int) (h40 : ws.length ≤ 40) (g n cap : Nat) (w0 w : World) (hB : Below w0.heap.size w0 w) (hO : Own e98 2 98 w w0.heap.size (.slice (some ⟨g, 0, none⟩) n cap) (restsF t ws.sum 0 ws)) :
    Calls Try.prog 51 #[.slice (some ⟨g, 0, none⟩) n cap, .func (.func 52) #[] #[]] w fun e w' => e = .returned (.tuple #[]) ∧ Own e98 2 98 w' w0.heap.size (.slice (some ⟨g, 0, none⟩) n cap) (ordF t ws) ∧ Fr (fun k => k = g) w w' := by
  obtain ⟨k, hk⟩ := EvT.one (sort_ok t ws 52 h40)
  refine (money_rest_51.calls k (fun k => k = g) _ _ 52 _ w0 w hB (R98_of hO) hk).mono ?_
  rintro e w' ⟨rfl, hR, hB', hK⟩
  exact ⟨rfl, own_of_R98 hR, ⟨by rw [hB'.os, hB.os], by rw [hB'.tape, hB.tape], by rw [hB'.output, hB.output], hK.1, fun b hb hn => hK.2 b hb hn⟩⟩
end Go.Proofs.Ytncnhhnbjmpomaa
namespace Go.Proofs.Ytncnhhnbjmpomaa
open Go.RowKit Go.Proofs.Ytncnhhnbjmpomaa.Q Go.Proofs.Kq
open Go.Proofs.YtncnhhnbjmpomaaW.PrintWords (pw_cell_below step_append_cells print_append_cells Kd Kd.C Kd.C_below Drawn0 encs encs_length encs_append)
set_option linter.unusedVariables false
set_option linter.unusedSimpArgs false
theorem C_drewN {k : IntKind} {w : World} {A : Option Addr} {m : Nat} {xs : List Int} (h : Kd.C (Kd.int k) w A m xs) (n : Nat) : Kd.C (Kd.int k) (w.drewN n) A m xs := Kd.C_below h (by have := Below.refl w.heap.size w; exact ⟨this.os, this.tape, this.output, this.size, this.block⟩)
def SplitP (t : Int) (ws : List Int) (w : World) (e : Ending) (w' : World) : Prop :=
  ∃ v : Value, e = .returned (.tuple #[v, .int .i64 (splitF t ws).2]) ∧ w'.ownsRow w.heap.size 2 1 v (splitF t ws).1.length (encs (Value.int .i64) (splitF t ws).1) ∧ Below w.heap.size w w'
theorem below_drN (w : World) (n : Nat) : Below w.heap.size w (w.drewN n) := ⟨rfl, rfl, rfl, Nat.le_refl _, fun _ _ => rfl⟩
set_option maxRecDepth 100000 in
set_option maxHeartbeats 4000000 in
theorem split_bad (t : Int) (A0 : Option Addr) (c0 : Nat) (ws : List Int) (w : World) (hr0 : Kd.C (Kd.int .i64) w A0 ws.length ws) (hc0 : ws.length ≤ c0) (h20 : ws.length ≤ 40) (hw : ∀ x ∈ ws, inR x) (ht : inR t)
    (hbad : t < 0 ∨ ws.any (fun n => decide (n < 0)) = true) : Calls Try.prog 20 #[.int .i64 t, .slice A0 ws.length c0] w (SplitP t ws w) := by
  obtain ⟨m, hm⟩ := add_ok ws hw (by omega)
  obtain ⟨a, ha⟩ : ∃ a, addF 0 ws = a := ⟨_, rfl⟩
  have H1 := hidI (fun w hr => money_Add.calls (0 + m) A0 c0 ws a.1 a.2 w hr hc0 (by rw [hm 0, ha]))
  have H2 := hidI (fun w hr => slices_ContainsFunc_int64_int64.calls A0 c0 ws 50 (ws.any (fun n => decide (n < 0))) w hr hc0 (by unfold slices_ContainsFunc_int64_int64.f; rw [if_pos ⟨.inl rfl, by omega⟩]))
  have HR := hidI hr0
  have HS : Hid (splitF t ws = ([], 1)) := by
    show _ = _
    unfold splitF
    rcases hbad with h | h
    · rw [if_pos h]
    · by_cases h1 : t < 0
      · rw [if_pos h1]
      · rw [if_neg h1, if_pos h]
  have HF : Hid (∀ n, SplitP t ws w (.returned (.tuple #[.slice none 0 0, .int .i64 1])) (w.drewN n)) := fun n => ⟨.slice none 0 0, by rw [HS.out], by rw [HS.out]; exact ⟨rfl, .inl ⟨rfl, rfl⟩⟩, below_drN w n⟩
  clear hr0 hm ha HS
  by_cases htn : t < 0
  · clear hbad H2
    go_enter Try.func20, Try.ntmps20
    go_wp2_with fail
    refine (H1.out _ HR.out).mono ?_
    rintro e w' ⟨rfl, ⟨n, rfl⟩⟩
    simp only []
    go_wp2
    go_ret2
    exact HF.out n
  · have hany := hbad.resolve_left htn
    clear hbad
    go_enter Try.func20, Try.ntmps20
    go_wp2_with fail
    refine (H1.out _ HR.out).mono ?_
    rintro e w' ⟨rfl, ⟨n, rfl⟩⟩
    simp only []
    go_wp2_with fail
    refine (H2.out _ (C_drewN HR.out n)).mono ?_
    rintro e w' ⟨rfl, ⟨n2, rfl⟩⟩
    rw [hany]
    simp only []
    go_wp2
    go_ret2
    exact HF.out (n + n2)
theorem info98 : (Try.prog.info? 98).map (fun i => (i.zero, i.size, i.bytes)) = some (some (.agg #[.int .i64 0, .int .u64 0]), 2, 16) := by kernel_rfl
theorem sum_take_le : ∀ (l : List Int) (k : Nat), (∀ x ∈ l, 0 ≤ x) → 0 ≤ (l.take k).sum ∧ (l.take k).sum ≤ l.sum
  | [], k, _ => by simp
  | x :: l, 0, h => by
    have := sum_nn (x :: l) h
    simp at this ⊢; omega
  | x :: l, k + 1, h => by
    have := sum_take_le l k (fun y hy => h y (by simp [hy]))
    have h1 := h x (by simp)
    simp; omega
theorem left_take (t : Int) (ws : List Int) (k : Nat) (ht : 0 ≤ t) (hw : ∀ x ∈ ws, 0 ≤ x) (ha : 0 < ws.sum) : 0 ≤ leftF t ws.sum (ws.take k) ∧ leftF t ws.sum (ws.take k) ≤ t := by
  have h1 := (left_bd t ws ht hw ha).1
  have hq : ∀ x ∈ quosF t ws.sum ws, 0 ≤ x := by
    intro x hx
    obtain ⟨y, hy, rfl⟩ := List.mem_map.1 hx
    exact (quo_bd ht (hw y hy) (mem_le_sum ws hw y hy) ha).1
  have h2 := sum_take_le (quosF t ws.sum ws) k hq
  have e : (quosF t ws.sum ws).take k = quosF t ws.sum (ws.take k) := by simp [quosF, List.map_take]
  rw [e] at h2
  unfold leftF at h1 ⊢
  omega
theorem mul38 (t x : Int) (ht : 0 ≤ t) (ht2 : t < 18446744073709551616) (hx : 0 ≤ x) (hx2 : x < 18446744073709551616) (w : World) :
    Calls Try.prog 38 #[.int .u64 t, .int .u64 x] w fun e w' => e = .returned (.tuple #[.int .u64 (t * x / 18446744073709551616), .int .u64 (t * x % 18446744073709551616)]) ∧ w = w' := by
  obtain ⟨a, rfl⟩ := Int.eq_ofNat_of_zero_le ht
  obtain ⟨b, rfl⟩ := Int.eq_ofNat_of_zero_le hx
  refine (Go.Proofs.Try.bits_Mul64 a b (by omega) (by omega) w).mono fun e w' ⟨he, hw⟩ => ⟨?_, hw.symm⟩
  rw [he, Int.natCast_ediv, Int.natCast_emod, Int.natCast_mul]; rfl
theorem div40 (P all : Int) (hP : 0 ≤ P) (ha : 0 < all) (ha2 : all < 18446744073709551616) (hlt : P / 18446744073709551616 < all) (w : World) :
    Calls Try.prog 40 #[.int .u64 (P / 18446744073709551616), .int .u64 (P % 18446744073709551616), .int .u64 all] w fun e w' => e = .returned (.tuple #[.int .u64 (P / all), .int .u64 (P % all)]) ∧ Drawn0 w w' := by
  obtain ⟨k, hk⟩ := div64_ok (P / 18446744073709551616) (P % 18446744073709551616) all (by omega) hlt ha2 (by omega) (by omega)
  have e : P / 18446744073709551616 * 18446744073709551616 + P % 18446744073709551616 = P := by omega
  rw [e] at hk
  exact bits_Div64.calls k _ _ _ _ _ w hk
theorem any_false (ws : List Int) (h : ws.any (fun n => decide (n < 0)) = false) : ∀ x ∈ ws, 0 ≤ x := by
  intro x hx
  have := List.any_eq_false.1 h x hx
  simpa using this
set_option maxRecDepth 100000 in
set_option maxHeartbeats 4000000 in
theorem split_no (t : Int) (A0 : Option Addr) (c0 : Nat) (ws : List Int) (w : World) (hr0 : Kd.C (Kd.int .i64) w A0 ws.length ws) (hc0 : ws.length ≤ c0) (h20 : ws.length ≤ 40) (hw : ∀ x ∈ ws, inR x) (ht : 0 ≤ t)
    (hany : ws.any (fun n => decide (n < 0)) = false) (hbad : 9223372036854775807 < ws.sum ∨ ws.sum = 0) : Calls Try.prog 20 #[.int .i64 t, .slice A0 ws.length c0] w (SplitP t ws w) := by
  obtain ⟨m, hm⟩ := add_ok ws hw (by omega)
  have hnn := any_false ws hany
  have ha := addF_nn ws 0 (Int.le_refl _) hnn (by decide)
  rw [Int.zero_add] at ha
  have H2 := hidI (fun w hr => slices_ContainsFunc_int64_int64.calls A0 c0 ws 50 false w hr hc0 (by unfold slices_ContainsFunc_int64_int64.f; rw [if_pos ⟨.inl rfl, by omega⟩, hany]))
  have HR := hidI hr0
  have hta : ¬ t < 0 := by omega
  by_cases hov : 9223372036854775807 < ws.sum
  · rw [if_neg (by omega)] at ha
    have H1 := hidI (fun w hr => money_Add.calls (0 + m) A0 c0 ws 0 2 w hr hc0 (by rw [hm 0, ha]))
    have HS : Hid (splitF t ws = ([], 2)) := by
      show _ = _
      unfold splitF
      rw [if_neg hta, if_neg (by rw [hany]; decide), if_pos (by omega)]
    have HF : Hid (∀ n, SplitP t ws w (.returned (.tuple #[.slice none 0 0, .int .i64 2])) (w.drewN n)) := fun n => ⟨.slice none 0 0, by rw [HS.out], by rw [HS.out]; exact ⟨rfl, .inl ⟨rfl, rfl⟩⟩, below_drN w n⟩
    clear hr0 hm ha HS hbad hany hov hnn
    go_enter Try.func20, Try.ntmps20
    go_wp2_with fail
    refine (H1.out _ HR.out).mono ?_
    rintro e w' ⟨rfl, ⟨n, rfl⟩⟩
    simp only []
    go_wp2_with fail
    refine (H2.out _ (C_drewN HR.out n)).mono ?_
    rintro e w' ⟨rfl, ⟨n2, rfl⟩⟩
    simp only []
    go_wp2
    go_ret2
    exact HF.out (n + n2)
  · have hz : ws.sum = 0 := hbad.resolve_left hov
    rw [if_pos (by omega), hz] at ha
    have H1 := hidI (fun w hr => money_Add.calls (0 + m) A0 c0 ws 0 0 w hr hc0 (by rw [hm 0, ha]))
    have HS : Hid (splitF t ws = ([], 1)) := by
      show _ = _
      unfold splitF
      rw [if_neg hta, if_neg (by rw [hany]; decide), if_neg (by omega), if_pos hz]
    have HF : Hid (∀ n, SplitP t ws w (.returned (.tuple #[.slice none 0 0, .int .i64 1])) (w.drewN n)) := fun n => ⟨.slice none 0 0, by rw [HS.out], by rw [HS.out]; exact ⟨rfl, .inl ⟨rfl, rfl⟩⟩, below_drN w n⟩
    clear hr0 hm ha HS hbad hany hov hnn hz
    go_enter Try.func20, Try.ntmps20
    go_wp2_with fail
    refine (H1.out _ HR.out).mono ?_
    rintro e w' ⟨rfl, ⟨n, rfl⟩⟩
    simp only []
    go_wp2_with fail
    refine (H2.out _ (C_drewN HR.out n)).mono ?_
    rintro e w' ⟨rfl, ⟨n2, rfl⟩⟩
    simp only []
    go_wp2
    go_ret2
    exact HF.out (n + n2)
set_option maxRecDepth 100000 in
set_option maxHeartbeats 4000000 in
theorem split_ok (t : Int) (A0 : Option Addr) (c0 : Nat) (ws : List Int) (w : World) (hr0 : Kd.C (Kd.int .i64) w A0 ws.length ws) (hc0 : ws.length ≤ c0) (h20 : ws.length ≤ 40) (hw : ∀ x ∈ ws, inR x) (ht : 0 ≤ t) (ht2 : t ≤ 9223372036854775807)
    (hany : ws.any (fun n => decide (n < 0)) = false) (h1 : ws.sum ≤ 9223372036854775807) (h2 : 0 < ws.sum) : Calls Try.prog 20 #[.int .i64 t, .slice A0 ws.length c0] w (SplitP t ws w) := by
  obtain ⟨m, hm⟩ := add_ok ws hw (by omega)
  have hnn := any_false ws hany
  have ha := addF_nn ws 0 (Int.le_refl _) hnn (by decide)
  rw [Int.zero_add, if_pos (by omega)] at ha
  have H2 := hidI (fun w hr => slices_ContainsFunc_int64_int64.calls A0 c0 ws 50 false w hr hc0 (by unfold slices_ContainsFunc_int64_int64.f; rw [if_pos ⟨.inl rfl, by omega⟩, hany]))
  have HR := hidI hr0
  have hta : ¬ t < 0 := by omega
  have H1 := hidI (fun w hr => money_Add.calls (0 + m) A0 c0 ws ws.sum 0 w hr hc0 (by rw [hm 0, ha]))
  have HS : Hid (splitF t ws = (partsF t ws, 0)) := by
    show _ = _
    unfold splitF
    rw [if_neg hta, if_neg (by rw [hany]; decide), if_neg (by omega), if_neg (by omega)]
  have HM := hidI (mem_le_sum ws hnn)
  have HNN := hidI hnn
  have HW := hidI hw
  have HLB := hidI (left_bd t ws ht hnn h2)
  obtain ⟨all, hall⟩ : ∃ all, all = ws.sum := ⟨_, rfl⟩
  rw [← hall] at h1 h2 H1 HM HLB
  have HALL := hidI hall
  have hne : ¬ (all = 0) := by omega
  have hne2 : (all == 0) = false := beq_eq_false_iff_ne.2 hne
  have htd : decide (t < 0) = false := by simpa using ht
  clear hr0 hm ha hany hnn hw hall
  go_enter Try.func20, Try.ntmps20
  go_wp2_with fail
  refine (H1.out _ HR.out).mono ?_
  rintro e w' ⟨rfl, ⟨n, rfl⟩⟩
  simp only []
  go_wp2_with fail
  refine (H2.out _ (C_drewN HR.out n)).mono ?_
  rintro e w' ⟨rfl, ⟨n2, rfl⟩⟩
  simp only []
  go_wp2
  go_loopw [8, 9, 10, 41] (fun v8 v9 l i wr => ∃ k : Nat, k ≤ ws.length ∧ i = .int .i64 k ∧ l = .int .i64 (leftF t all (ws.take k)) ∧ Hid (Own li 1 2 wr w.heap.size v8 (quosF t all (ws.take k)) ∧ Own e98 2 98 wr w.heap.size v9 (restsF t all 0 (ws.take k)) ∧ Below w.heap.size w wr)) (fun _ _ _ i _ => ws.length - (intOf i).toNat)
  case atStart => exact ⟨0, Nat.zero_le _, rfl, by simp [leftF, quosF], ⟨Own.nil _ _ _ _ _, Own.nil _ _ _ _ _, below_drN w _⟩⟩
  case round =>
    obtain ⟨k, hk, rfl, rfl, HI⟩ := hrel
    have hb := HI.out.2.2
    by_cases hlt : k < ws.length
    · obtain ⟨b, off, hA, hc⟩ := C_ints HR.out (by omega)
      subst hA
      have q0 : wr.cell? ⟨b, off + k, none⟩ = some (.int .i64 ws[k]) := pw_cell_below hb (hc k hlt)
      have hx0 : 0 ≤ ws[k] := HNN.out _ (List.getElem_mem hlt)
      have hxa : ws[k] ≤ all := HM.out _ (List.getElem_mem hlt)
      obtain ⟨x, hx⟩ : ∃ x, x = ws[k] := ⟨_, rfl⟩
      rw [← hx] at q0 hx0 hxa
      have HX := hidI hx
      have hlk := left_take t ws k ht HNN.out (by rw [← HALL.out]; exact h2)
      rw [← HALL.out] at hlk
      have hqb := quo_bd ht hx0 hxa h2
      have hP : 0 ≤ t * x := Int.mul_nonneg ht hx0
      have hrb := Int.emod_nonneg (t * x) (b := all) (by omega)
      have hrc := Int.emod_lt_of_pos (t * x) h2
      have hlt2 : t * x / 18446744073709551616 < all := by
        apply Int.ediv_lt_of_lt_mul (by decide)
        have : t * x ≤ t * all := Int.mul_le_mul_of_nonneg_left hxa ht
        have : t * all ≤ 9223372036854775807 * all := Int.mul_le_mul_of_nonneg_right ht2 (by omega)
        omega
      have H3 := hidI (mul38 t x ht (by omega) hx0 (by omega) wr)
      have H4 := hidI (fun w => div40 (t * x) all hP h2 (by omega) hlt2 w)
      have hst1 : Hid (quosF t all (ws.take (k + 1)) = quosF t all (ws.take k) ++ [t * x / all]) := by
        show _ = _
        rw [List.take_succ_eq_append_getElem hlt, ← HX.out, quosF_snoc]
      have hst2 : Hid (restsF t all 0 (ws.take (k + 1)) = restsF t all 0 (ws.take k) ++ [⟨k, t * x % all⟩]) := by
        show _ = _
        rw [List.take_succ_eq_append_getElem hlt, ← HX.out, restsF_snoc, List.length_take, Nat.min_eq_left (by omega), Nat.zero_add]
      have hst3 : Hid (leftF t all (ws.take (k + 1)) = leftF t all (ws.take k) - t * x / all) := by
        show _ = _
        unfold leftF
        rw [hst1.out]; simp; omega
      have hlk1 := left_take t ws (k + 1) ht HNN.out (by rw [← HALL.out]; exact h2)
      rw [← HALL.out, hst3.out] at hlk1
      clear hx hP hlt2 hc hb
      generalize leftF t all (ws.take k) = lf at *
      generalize t * x / all = q at *
      generalize t * x % all = r at *
      go_wp2_with fail
      refine H3.out.mono ?_
      rintro e w' ⟨rfl, rfl⟩
      simp only []
      go_wp2_with fail
      refine (H4.out _).mono ?_
      rintro e w' ⟨rfl, ⟨nd, rfl⟩⟩
      simp only []
      have hO1 := HI.out.1.drewN nd
      have hO2 := HI.out.2.1.drewN nd
      have hB0 := below_drewN HI.out.2.2 nd
      have hl1 : (quosF t all (ws.take k)).length = k := by rw [quosF_len, List.length_take]; omega
      have hl2 : (restsF t all 0 (ws.take k)).length = k := by rw [restsF_len, List.length_take]; omega
      generalize quosF t all (ws.take k) = zq at *
      generalize restsF t all 0 (ws.take k) = zr at *
      have HO1 := hidI hO1
      have HO2 := hidI hO2
      have HB0 := hidI hB0
      have hzq : zq.length ≤ 1000000 := by omega
      have hzr : zr.length ≤ 1000000 := by omega
      have HL := hidI (And.intro hl1 hl2)
      have HSZ := hB0.size
      clear hO1 hO2 hB0 H3 H4 HI hl1 hl2
      obtain ⟨W, hW⟩ : ∃ W, W = wr.drewN nd := ⟨_, rfl⟩
      rw [← hW] at HO1 HO2 HB0 HSZ ⊢
      clear hW
      go_wp2_with (first
        | (at_builtin; refine print_append_cells (w0 := w) (W := W) w.heap.size rfl (.tmp 62) (.tmp 65) 22 2 (.int .i64 0) 1 8 rfl Try.underlying22 info2 rfl (by decide) (by decide) u8 zq.length (zq.flatMap li) [.int .i64 q] (by rfl) (by rfl) rfl (by simp [Value.oneCell']) HO1.out HB0.out HB0.out.size (by omega) ?_; intro v5 w5 ho5 hb5 hg5 hat5)
        | (at_builtin; refine print_append_cells (w0 := w) (W := w5) w.heap.size rfl (.tmp 67) (.tmp 71) 96 98 (.agg #[.int .i64 0, .int .u64 0]) 2 16 rfl Try.underlying96 info98 rfl (by decide) (by decide) u9 zr.length (zr.flatMap e98) [.int .i64 k, .int .u64 r] (by rfl) (by rfl) rfl (by simp [Value.oneCell']) (HO2.out.kept (fun k2 hk2 => hg5.block k2 (HO2.out.lt hk2) (fun h => HO2.out.ne_own HO1.out (by decide) k2 hk2 h.symm))) hb5 hb5.size (by omega) ?_; intro v6 w6 ho6 hb6 hg6 hat6))
      have hO25 := HO2.out.kept (w1 := w5) (fun k2 hk2 => hg5.block k2 (HO2.out.lt hk2) (fun h => HO2.out.ne_own HO1.out (by decide) k2 hk2 h.symm))
      have hO15 := Own.snoc (l := li) (p := q) ho5
      have hO16 := hO15.kept (w1 := w6) (fun k2 hk2 => hg6.block k2 (hO15.lt hk2) (fun h => hO15.ne_own hO25 (by decide) k2 hk2 h.symm))
      have hO26 := Own.snoc (l := e98) (p := (⟨k, r⟩ : S98)) ho6
      have hfin : Hid (Own li 1 2 w6 w.heap.size v5 (quosF t all (ws.take (k + 1))) ∧ Own e98 2 98 w6 w.heap.size v6 (restsF t all 0 (ws.take (k + 1))) ∧ Below w.heap.size w w6) := by
        show _ ∧ _
        rw [hst1.out, hst2.out]
        exact ⟨hO16, hO26, hb6⟩
      clear ho5 hb5 hg5 hat5 ho6 hb6 hg6 hat6 hO25 hO15 hO16 hO26 HO1 HO2 HB0
      go_roundw
      case rel => exact ⟨k + 1, by omega, by go_num, by rw [hst3.out], hfin⟩
      case measure => simp [intOf]; omega
    · obtain rfl : k = ws.length := by omega
      have hb0 := HI.out
      rw [List.take_length] at hb0
      obtain ⟨hO1, hO2, hB⟩ := hb0
      have hpos : 0 < ws.length := by
        apply Nat.pos_of_ne_zero
        intro h0
        have e := HALL.out
        rw [List.length_eq_zero_iff.1 h0] at e
        simp at e; omega
      have hrl := restsF_len t all ws 0
      obtain ⟨hle0, hle1⟩ := HLB.out
      rcases hO2.cases_ with ⟨_, h0⟩ | ⟨g, cap, rfl, hcap, hcm, hgb, hgl⟩
      · rw [h0] at hrl; simp at hrl; omega
      have hO2' : Own e98 2 98 wr w.heap.size (.slice (some ⟨g, 0, none⟩) ws.length cap) (restsF t ws.sum 0 ws) := by
        rw [hrl, HALL.out] at hO2; exact hO2
      have HSORT := hidI (sort40 t ws h20 g ws.length cap w wr hB hO2')
      have hidx : ∀ r ∈ ordF t ws, 0 ≤ r.f0 ∧ r.f0.toNat < (quosF t all ws).length := by
        intro r hr
        obtain ⟨m, hm, rfl⟩ := ord_mem t ws r hr
        rw [quosF_len]; simp; omega
      have hq0 : ∀ x ∈ quosF t all ws, 0 ≤ x := by
        intro x hx
        obtain ⟨y, hy, rfl⟩ := List.mem_map.1 hx
        exact (quo_bd ht (HNN.out y hy) (HM.out y hy) h2).1
      have HPF : Hid (partsF t ws = bump (quosF t all ws) ((ordF t ws).take (leftF t all ws).toNat)) := by
        show _ = _
        unfold partsF ordF; rw [← HALL.out]
      rw [List.take_length]
      obtain ⟨lf, hlf⟩ : ∃ lf : Nat, (lf : Int) = leftF t all ws := ⟨(leftF t all ws).toNat, by omega⟩
      have hlf2 : (leftF t all ws).toNat = lf := by omega
      rw [hlf2] at HPF hle1
      rw [← hlf]
      have hsum : (quosF t all ws).sum + lf = t := by
        have : leftF t all ws = t - (quosF t all ws).sum := rfl
        omega
      have HO1 := hidI hO1
      have HO2 := hidI hO2'
      have HIDX := hidI hidx
      have HQ0 := hidI hq0
      have hql := quosF_len t all ws
      have HN1 := hidI (hO2'.ne_own hO1 (by decide))
      have HB := hidI hB
      have hcap2 : ws.length ≤ cap := by rw [hrl] at hcap; exact hcap
      rw [hrl]
      clear HI hidx hq0 hrl hle0 hlf hlf2 hO1 hO2 hO2' hB hcap hlt hk hgl
      generalize quosF t all ws = qs at *
      have hol : (ordF t ws).length = ws.length := ord_len t ws
      go_wp2_with fail
      with_reducible refine HSORT.out.mono ?_
      rintro e w2 ⟨rfl, hOS, hFR⟩
      have HI := hidI (And.intro (HO1.out.fr hFR (fun k hk e => HN1.out g rfl (by rw [← e]; exact hk))) (And.intro hOS ((Fr.trans (S := fun k => k = g) (Fr.of_below HB.out) hFR (fun _ _ h => h)).toBelow (fun b hb h => by omega))))
      clear HO1 HO2 HB HN1 HSORT hOS hFR
      simp only []
      obtain ⟨hO1, hO2, hB2⟩ := HI.out
      rcases hO1.cases_ with ⟨_, h0⟩ | ⟨g8, c8, rfl, hc8, hc8m, hg8b, hg8l⟩
      · rw [h0] at hql; simp at hql; omega
      have HNE := hidI (hO1.ne_own hO2 (by decide) g8 rfl)
      obtain ⟨ord, hord⟩ : ∃ ord, ord = ordF t ws := ⟨_, rfl⟩
      rw [← hord] at HPF HIDX hO2 hol
      clear hord
      rw [hql] at hc8 ⊢
      rw [hql] at hO1
      have HI2 := hidI (And.intro hO1 (And.intro hO2 hB2))
      clear HI hO1 hO2 hB2
      go_wp2
      go_loopw [84] (fun i w3 => ∃ j : Nat, j ≤ lf ∧ i = .int .i64 j ∧ Hid (Own li 1 2 w3 w.heap.size (.slice (some ⟨g8, 0, none⟩) ws.length c8) (bump qs (ord.take j)) ∧ Own e98 2 98 w3 w.heap.size (.slice (some ⟨g, 0, none⟩) ws.length cap) ord ∧ Below w.heap.size w w3)) (fun i _ => lf - (intOf i).toNat)
      case atStart => exact ⟨0, Nat.zero_le _, rfl, HI2.out⟩
      case round =>
        obtain ⟨j, hj, rfl, HJ⟩ := hrel
        obtain ⟨hO1, hO2, hB3⟩ := HJ.out
        by_cases hlt : j < lf
        · have hjo : j < ord.length := by omega
          obtain ⟨r, hr⟩ : ∃ r, r = ord[j] := ⟨_, rfl⟩
          have hc := own_cell98 hO2 j hjo
          rw [← hr] at hc
          obtain ⟨c1, c2⟩ := hc
          have hi := HIDX.out r (by rw [hr]; exact List.getElem_mem hjo)
          rw [hql] at hi
          obtain ⟨ri, hri⟩ : ∃ ri : Nat, r.f0 = (ri : Int) := ⟨r.f0.toNat, by omega⟩
          have hri2 : ri < ws.length := by omega
          have hbl : (bump qs (ord.take j)).length = ws.length := by rw [bump_len, hql]
          have hbf := bump_facts (ord.take j) qs HQ0.out (fun q hq => by rw [hql]; have := HIDX.out q (List.mem_of_mem_take hq); omega)
          have hbs := mem_le_sum _ hbf.1
          have hc3 := own_cell hO1 ri (by omega)
          obtain ⟨x, hx⟩ : ∃ x, x = (bump qs (ord.take j))[ri] := ⟨_, rfl⟩
          rw [← hx] at hc3
          have hxb : 0 ≤ x ∧ x < t := by
            have h1 := hbf.1 x (by rw [hx]; exact List.getElem_mem _)
            have h2 := hbs x (by rw [hx]; exact List.getElem_mem _)
            rw [hbf.2, List.length_take, Nat.min_eq_left (by omega)] at h2
            omega
          have hst : Hid (bump qs (ord.take (j + 1)) = (bump qs (ord.take j)).set ri (x + 1)) := by
            show _ = _
            rw [List.take_succ_eq_append_getElem hjo, ← hr, bump_snoc, hri, Int.toNat_natCast, List.getD_eq_getElem?_getD, List.getElem?_eq_getElem (by omega), ← hx]; rfl
          obtain ⟨c3, f3⟩ := hc3
          have hg8l3 : g8 < wr.heap.size := hO1.lt rfl
          have hgl3 : g < wr.heap.size := hO2.lt rfl
          have hfin : Hid (Own li 1 2 ((wr.setCell ⟨g8, ri, none⟩ (.int .i64 (x + 1))).alloc (.cells #[.int .i64 ri, .int .u64 r.f1] 98)) w.heap.size (.slice (some ⟨g8, 0, none⟩) ws.length c8) (bump qs (ord.take (j + 1))) ∧ Own e98 2 98 ((wr.setCell ⟨g8, ri, none⟩ (.int .i64 (x + 1))).alloc (.cells #[.int .i64 ri, .int .u64 r.f1] 98)) w.heap.size (.slice (some ⟨g, 0, none⟩) ws.length cap) ord ∧ Below w.heap.size w ((wr.setCell ⟨g8, ri, none⟩ (.int .i64 (x + 1))).alloc (.cells #[.int .i64 ri, .int .u64 r.f1] 98))) := by
            show _ ∧ _
            rw [hst.out]
            exact ⟨(own_set hO1 ri (by omega) _).alloc _, (hO2.far (p := ⟨g8, ri, none⟩) HNE.out _).alloc _, below_new (hB3.setCell (by show w.heap.size ≤ g8; omega) _) _⟩
          have HQ := hidI hri
          rw [hri] at c1
          clear hO1 hO2 hB3 HJ hr hbf hbs hx hi hri hst hbl
          go_wp2
          go_roundw
          case rel => exact ⟨j + 1, by omega, by go_num, hfin⟩
          case measure => simp [intOf]; omega
        · obtain rfl : j = lf := by omega
          have hF : Hid (SplitP t ws w (.returned (.tuple #[.slice (some ⟨g8, 0, none⟩) ws.length c8, .int .i64 0])) wr) := by
            refine ⟨_, by rw [HS.out], ?_, hB3⟩
            rw [HS.out]
            simp only []
            rw [HPF.out]
            have h := hO1
            unfold Own at h
            rw [flat_li] at h
            exact h
          clear hO1 hO2 hB3 HJ HI2
          go_wp2
          go_ret2
          exact hF.out
theorem split_any (t : Int) (A0 : Option Addr) (c0 : Nat) (ws : List Int) (w : World) (hr0 : Kd.C (Kd.int .i64) w A0 ws.length ws) (hc0 : ws.length ≤ c0) (h20 : ws.length ≤ 40) (hw : ∀ x ∈ ws, inR x) (ht : inR t) :
    Calls Try.prog 20 #[.int .i64 t, .slice A0 ws.length c0] w (SplitP t ws w) := by
  by_cases h1 : t < 0
  · exact split_bad t A0 c0 ws w hr0 hc0 h20 hw ht (.inl h1)
  · by_cases h2 : ws.any (fun n => decide (n < 0)) = true
    · exact split_bad t A0 c0 ws w hr0 hc0 h20 hw ht (.inr h2)
    · have h2' := eq_false_of_ne_true h2
      have hs := sum_nn ws (any_false ws h2')
      by_cases h3 : 9223372036854775807 < ws.sum
      · exact split_no t A0 c0 ws w hr0 hc0 h20 hw (by omega) h2' (.inl h3)
      · by_cases h4 : ws.sum = 0
        · exact split_no t A0 c0 ws w hr0 hc0 h20 hw (by omega) h2' (.inr h4)
        · exact split_ok t A0 c0 ws w hr0 hc0 h20 hw (by omega) ht.2 h2' (by omega) (by omega)
end Go.Proofs.Ytncnhhnbjmpomaa
namespace Go.Proofs.Ytncnhhnbjmpomaa.Q
open Go.RowKit Go.Proofs.YtncnhhnbjmpomaaW.PrintWords Go.Proofs.YtncnhhnbjmpomaaW.PrintLast Go.Proofs.Ytncnhhnbjmpomaa
def inRb (x : Int) : Bool := decide (-9223372036854775808 ≤ x) && decide (x ≤ 9223372036854775807)
theorem inRb_iff (x : Int) : inRb x = true ↔ inR x := by simp [inRb, inR]
def money_Split.f (a0 : Int) (l1 : List Int) : Option (List Int × Int) := if l1.length ≤ 40 ∧ l1.all inRb = true ∧ inRb a0 = true then some (splitF a0 l1) else none
theorem money_Split.calls (a0 : Int) (A1 : Option Addr) (c1 : Nat) (l1 : List Int) (r1 : List Int) (r2 : Int) (w : World) (hr1 : Kd.C (Kd.int .i64) w A1 l1.length l1) (hc1 : l1.length ≤ c1) (h : money_Split.f a0 l1 = some (r1, r2)) :
    Calls Try.prog 20 #[.int .i64 a0, .slice A1 l1.length c1] w fun e w' => ∃ v0_ : Value, e = .returned (.tuple #[v0_, .int .i64 r2]) ∧ Kd.R (Kd.int .i64) 2 w' w.heap.size (fun _ => True) v0_ r1 ∧ Below w.heap.size w w' := by
  unfold money_Split.f at h
  split at h
  · rename_i hb
    obtain ⟨h1, h2, h3⟩ := hb
    simp only [Option.some.injEq] at h
    refine (split_any a0 A1 c1 l1 w hr1 hc1 h1 (fun x hx => (inRb_iff x).1 (List.all_eq_true.1 h2 x hx)) ((inRb_iff a0).1 h3)).mono ?_
    rintro e w' ⟨v, he, ho, hb⟩
    rw [h] at he ho
    exact ⟨v, he, Kd.R_of_own ho (fun _ _ => trivial), hb⟩
  · cases h
end Go.Proofs.Ytncnhhnbjmpomaa.Q
namespace Go.Proofs.Ytncnhhnbjmpomaa.Q
open Go.RowKit Go.Proofs.YtncnhhnbjmpomaaW.PrintWords Go.Proofs.YtncnhhnbjmpomaaW.PrintLast Go.Proofs.YtncnhhnbjmpomaaW.PrintMore
attribute [local go_sem] max2_int min2_int max_two min_two max_three min_three max_four min_four   -- for this text's walks alone
set_option linter.unusedVariables false
set_option linter.unusedSimpArgs false
def claw_Take.j0 : Nat → List Int → Int → Bool → Option (List Int × Int)
 | 0, _, _, _ => none
 | k + 1, x0, x1, x13 => if x13 = true then (some (([] : List Int), 1)) else ((money_Add.f k x0).bind fun bt459 => (if bt459.2 = 0 then (if x1 > bt459.1 then (some (([] : List Int), 10)) else ((money_Split.f x1 x0).bind fun bt461 => (some (bt461.1, bt461.2)))) else (some (([] : List Int), bt459.2))))
def claw_Take.f (k : Nat) (l0 : List Int) (a1 : Int) : Option (List Int × Int) := if a1 ≤ 0 then (claw_Take.j0 k l0 a1 true) else ((slices_ContainsFunc_int64_int64.f l0 54).bind fun t458 => (claw_Take.j0 k l0 a1 t458))
set_option maxHeartbeats 8000000 in
set_option maxRecDepth 100000 in
theorem claw_Take.calls (k : Nat) (A0 : Option Addr) (c0 : Nat) (l0 : List Int) (a1 : Int) (r1 : List Int) (r2 : Int) (w : World) (hr0 : Kd.C (Kd.int .i64) w A0 l0.length l0) (hc0 : l0.length ≤ c0) (h : claw_Take.f k l0 a1 = some (r1, r2)) :
  Calls Try.prog 25 #[.slice A0 l0.length c0, .int .i64 a1] w fun e w' => ∃ v0_ : Value, e = .returned (.tuple #[v0_, .int .i64 r2]) ∧ Kd.R (Kd.int .i64) 2 w' w.heap.size (fun _ => True) v0_ r1 ∧ Below w.heap.size w w' := by
 have HR0 := Aside0.mk hr0
 have HC0 := Aside0.mk hc0
 clear hr0 hc0
 have HB := Aside0.mk (Below.refl w.heap.size w)
 have H : (if a1 ≤ 0 then (claw_Take.j0 k l0 a1 true) else ((slices_ContainsFunc_int64_int64.f l0 54).bind fun t458 => (claw_Take.j0 k l0 a1 t458))) = some (r1, r2) := h
 clear h
 have HC3 := Aside0.mk H
 clear H
 go_enter Try.func25, Try.ntmps25
 go_upto_region 1 with (fail)
 go_cut [13] (fun v13 wc => ∃ (kq : Nat) (x13_2 : Bool), v13 = .bool x13_2 ∧ Aside0 (claw_Take.j0 kq l0 a1 x13_2 = some (r1, r2)) ∧ Aside0 (kq ≤ k) ∧ Aside0 (Below w.heap.size w wc))
 case first =>
  have H := HC3.out
  clear HC3
  by_cases c4 : a1 ≤ 0
  ·rw [if_pos c4] at H
   have c4b0 : decide (a1 ≤ 0) = true := decide_eq_true c4
   clear c4
   (first | rw [c4b0] | (simp only [i64_w, i32_w]; rw [c4b0]) | skip)
   have H' := Aside0.mk H
   clear H
   go_wp2
   go_meet
   case rel => exact ⟨_, (true), (by first | rfl | (simp; done) | (simp [*]; done)), H', ⟨by first | omega | exact Nat.le_refl _⟩, ⟨by repeat (first | (with_reducible first | exact HB.out | apply below_alloc | apply pw_below_drewN | apply below_drew1) | exact HB.out)⟩⟩
  ·rw [if_neg c4] at H
   have c4b0 : decide (a1 ≤ 0) = false := decide_eq_false c4
   clear c4
   (first | rw [c4b0] | (simp only [i64_w, i32_w]; rw [c4b0]) | skip)
   replace H := Option.bind_eq_some_iff.mp H
   obtain ⟨t458, A50, H⟩ := H
   replace H : (claw_Take.j0 k l0 a1 t458) = some (r1, r2) := H
   have A5 := Aside0.mk A50
   clear A50
   have H' := Aside0.mk H
   clear H
   go_wp2_with (first | (go_at_call 28; (with_reducible refine (slices_ContainsFunc_int64_int64.calls _ _ l0 54 t458 _ ?side1 ?side2 A5.out).mono ?_); (case side1 => repeat (first | exact (Kd.C_below HR0.out HB.out) | (with_reducible refine Kd.C_alloc ?_ _) | (with_reducible refine Kd.C_drewN ?_ _) | (with_reducible refine Kd.C_drew ?_))); (case side2 => exact HC0.out); rintro e w' ⟨rfl, ⟨nd, rfl⟩⟩))
   go_meet
   case rel => exact ⟨_, (t458), (by first | rfl | (simp; done) | (simp [*]; done)), H', ⟨by first | omega | exact Nat.le_refl _⟩, ⟨by repeat (first | (with_reducible first | exact HB.out | apply below_alloc | apply pw_below_drewN | apply below_drew1) | exact HB.out)⟩⟩
 case rest =>
  clear HC3
  try clear c2
  try clear p2
  try clear c4
  try clear c4b0
  obtain ⟨kq, x13_2, rfl, HA, HJ2, HB⟩ := hcut
  cases kq with
  | zero => exact absurd HA.out (by simp [claw_Take.j0])
  | succ kj2 =>
   have H := HA.out
   clear HA
   simp only [claw_Take.j0] at H
   by_cases c6 : x13_2 = true
   ·subst c6
    have H1 : (some (([] : List Int), 1)) = some (r1, r2) := by rw [if_pos rfl] at H; exact H
    clear H
    have H := H1
    clear H1
    simp only [Option.some.injEq, Prod.mk.injEq] at H
    obtain ⟨rfl, rfl⟩ := H
    go_wp2
    go_ret2
    exact ⟨_, by first | rfl | (simp [errW_none, errW_some] <;> rfl) | (simp [*, errW_none, errW_some] <;> rfl), by first | exact Kd.R_nil _ _ _ _ _ | exact Kd.N_nil _ _ _ _ _ | exact Kd.V_nil _ _ _ _ _ | exact Kd.Q_nil _ _ _ _ _ | exact Kd.S_nil _ _ _ _ _, by repeat (first | (with_reducible first | exact HB.out | apply below_alloc | apply pw_below_drewN | apply below_drew1) | exact HB.out)⟩
   ·replace c6 := Bool.eq_false_iff.mpr c6
    subst c6
    have H1 : ((money_Add.f kj2 l0).bind fun bt459 => (if bt459.2 = 0 then (if a1 > bt459.1 then (some (([] : List Int), 10)) else ((money_Split.f a1 l0).bind fun bt461 => (some (bt461.1, bt461.2)))) else (some (([] : List Int), bt459.2)))) = some (r1, r2) := by rw [if_neg (show ¬ (false = true) by decide)] at H; exact H
    clear H
    have H := H1
    clear H1
    replace H := Option.bind_eq_some_iff.mp H
    obtain ⟨⟨t459, t460⟩, A70, H⟩ := H
    replace H : (if t460 = 0 then (if a1 > t459 then (some (([] : List Int), 10)) else ((money_Split.f a1 l0).bind fun bt461 => (some (bt461.1, bt461.2)))) else (some (([] : List Int), t460))) = some (r1, r2) := H
    have A7 := Aside0.mk A70
    clear A70
    by_cases c8 : t460 = 0
    ·rw [if_pos c8] at H
     have c8b0 : (t460 == 0) = true := beq_iff_eq.mpr c8
     have c8b1 : (t460 != 0) = false := bne_eq_false_iff_eq.mpr c8
     clear c8
     by_cases c9 : a1 > t459
     ·rw [if_pos c9] at H
      have c9b0 : decide (t459 < a1) = true := decide_eq_true c9
      clear c9
      simp only [Option.some.injEq, Prod.mk.injEq] at H
      obtain ⟨rfl, rfl⟩ := H
      go_wp2_with (first | ((with_reducible refine gate_callee (f := 13) rfl ?_); refine goesL_ (some 16) rfl rfl Try.func13 (by kernel_rfl) rfl #[.slice A0 l0.length c0] rfl (by (try simp only [List.map_toArray, List.map_cons, List.map_nil]); first | done | rfl | (simp only [List.length_drop, List.length_take]; rfl)) ?_; (with_reducible refine (money_Add.calls kj2 _ _ l0 t459 t460 _ ?side1 ?side2 A7.out).mono ?_); (case side1 => repeat (first | exact (Kd.C_below HR0.out HB.out) | (with_reducible refine Kd.C_alloc ?_ _) | (with_reducible refine Kd.C_drewN ?_ _) | (with_reducible refine Kd.C_drew ?_))); (case side2 => exact HC0.out); rintro e w' ⟨rfl, ⟨nd, rfl⟩⟩; refine ⟨_, rfl, ?_⟩))
      go_ret2
      exact ⟨_, by first | rfl | (simp [errW_none, errW_some] <;> rfl) | (simp [*, errW_none, errW_some] <;> rfl), by first | exact Kd.R_nil _ _ _ _ _ | exact Kd.N_nil _ _ _ _ _ | exact Kd.V_nil _ _ _ _ _ | exact Kd.Q_nil _ _ _ _ _ | exact Kd.S_nil _ _ _ _ _, by repeat (first | (with_reducible first | exact HB.out | apply below_alloc | apply pw_below_drewN | apply below_drew1) | exact HB.out)⟩
     ·rw [if_neg c9] at H
      have c9b0 : decide (t459 < a1) = false := decide_eq_false c9
      clear c9
      replace H := Option.bind_eq_some_iff.mp H
      obtain ⟨⟨t461, t462⟩, A100, H⟩ := H
      replace H : (some (t461, t462)) = some (r1, r2) := H
      have A10 := Aside0.mk A100
      clear A100
      simp only [Option.some.injEq, Prod.mk.injEq] at H
      obtain ⟨rfl, rfl⟩ := H
      go_wp2_with (first | ((with_reducible refine gate_callee (f := 13) rfl ?_); refine goesL_ (some 16) rfl rfl Try.func13 (by kernel_rfl) rfl #[.slice A0 l0.length c0] rfl (by (try simp only [List.map_toArray, List.map_cons, List.map_nil]); first | done | rfl | (simp only [List.length_drop, List.length_take]; rfl)) ?_; (with_reducible refine (money_Add.calls kj2 _ _ l0 t459 t460 _ ?side1 ?side2 A7.out).mono ?_); (case side1 => repeat (first | exact (Kd.C_below HR0.out HB.out) | (with_reducible refine Kd.C_alloc ?_ _) | (with_reducible refine Kd.C_drewN ?_ _) | (with_reducible refine Kd.C_drew ?_))); (case side2 => exact HC0.out); rintro e w' ⟨rfl, ⟨nd, rfl⟩⟩; refine ⟨_, rfl, ?_⟩) | ((with_reducible refine gate_callee (f := 20) rfl ?_); refine goesL_ (some 29) rfl rfl Try.func20 (by kernel_rfl) rfl #[.int .i64 a1, .slice A0 l0.length c0] rfl (by (try simp only [List.map_toArray, List.map_cons, List.map_nil]); first | done | rfl | (simp only [List.length_drop, List.length_take]; rfl)) ?_; (with_reducible refine (money_Split.calls a1 _ _ l0 t461 t462 _ ?side1 ?side2 A10.out).mono ?_); (case side1 => repeat (first | exact (Kd.C_below HR0.out (by repeat (first | (with_reducible first | exact HB.out | apply below_alloc | apply pw_below_drewN | apply below_drew1) | exact HB.out))) | (with_reducible refine Kd.C_alloc ?_ _) | (with_reducible refine Kd.C_drewN ?_ _) | (with_reducible refine Kd.C_drew ?_))); (case side2 => exact HC0.out); rintro e w11 ⟨v463, rfl, ho0, hb⟩; refine ⟨_, rfl, ?_⟩; have n0_ := Aside0.mk (Kd.R_lower ho0 (below_size (by repeat (first | (with_reducible first | exact HB.out | apply below_alloc | apply pw_below_drewN | apply below_drew1) | exact HB.out)))); have n1_ := Aside0.mk (below_step (by repeat (first | (with_reducible first | exact HB.out | apply below_alloc | apply pw_below_drewN | apply below_drew1) | exact HB.out)) hb); clear HB; have HO464 := n0_; have HB := n1_; clear n0_ n1_; (try clear hb); (try clear hb2); (try clear hk); (try clear hi); (try clear ho0)))
      go_ret2
      exact ⟨_, by first | rfl | (simp [errW_none, errW_some] <;> rfl) | (simp [*, errW_none, errW_some] <;> rfl), by (with_reducible repeat (first | apply Kd.R_alloc | apply Kd.R_drewN | apply Kd.R_drew)); exact HO464.out, by repeat (first | (with_reducible first | exact HB.out | apply below_alloc | apply pw_below_drewN | apply below_drew1) | exact HB.out)⟩
    ·rw [if_neg c8] at H
     have c8b0 : (t460 == 0) = false := beq_eq_false_iff_ne.mpr c8
     have c8b1 : (t460 != 0) = true := bne_iff_ne.mpr c8
     simp only [Option.some.injEq, Prod.mk.injEq] at H
     obtain ⟨rfl, rfl⟩ := H
     go_wp2_with (first | ((with_reducible refine gate_callee (f := 13) rfl ?_); refine goesL_ (some 16) rfl rfl Try.func13 (by kernel_rfl) rfl #[.slice A0 l0.length c0] rfl (by (try simp only [List.map_toArray, List.map_cons, List.map_nil]); first | done | rfl | (simp only [List.length_drop, List.length_take]; rfl)) ?_; (with_reducible refine (money_Add.calls kj2 _ _ l0 t459 t460 _ ?side1 ?side2 A7.out).mono ?_); (case side1 => repeat (first | exact (Kd.C_below HR0.out HB.out) | (with_reducible refine Kd.C_alloc ?_ _) | (with_reducible refine Kd.C_drewN ?_ _) | (with_reducible refine Kd.C_drew ?_))); (case side2 => exact HC0.out); rintro e w' ⟨rfl, ⟨nd, rfl⟩⟩; refine ⟨_, rfl, ?_⟩))
     go_ret2
     exact ⟨_, by first | rfl | (simp [errW_none, errW_some] <;> rfl) | (simp [*, errW_none, errW_some] <;> rfl), by first | exact Kd.R_nil _ _ _ _ _ | exact Kd.N_nil _ _ _ _ _ | exact Kd.V_nil _ _ _ _ _ | exact Kd.Q_nil _ _ _ _ _ | exact Kd.S_nil _ _ _ _ _, by repeat (first | (with_reducible first | exact HB.out | apply below_alloc | apply pw_below_drewN | apply below_drew1) | exact HB.out)⟩
end Go.Proofs.Ytncnhhnbjmpomaa.Q
namespace Go.Proofs.Ytncnhhnbjmpomaa.Q
open Go.RowKit Go.Proofs.YtncnhhnbjmpomaaW.PrintWords Go.Proofs.YtncnhhnbjmpomaaW.PrintLast Go.Proofs.YtncnhhnbjmpomaaW.PrintMore
attribute [local go_sem] max2_int min2_int max_two min_two max_three min_three max_four min_four   -- for this text's walks alone
set_option linter.unusedVariables false
set_option linter.unusedSimpArgs false
def souklaw13_lives.f (k : Nat)  : Option (Bool) := (claw_Take.f k (([10, 30] : List Int)) 4).bind fun bt468 => (if bt468.2 = 0 then ((slices_Equal_int64_int64.f k bt468.1 (([1, 3] : List Int))).bind fun t475 => (some t475)) else (some false))
set_option maxHeartbeats 8000000 in
set_option maxRecDepth 100000 in
theorem souklaw13_lives.calls (k : Nat)  (r : Bool) (w : World) (h : souklaw13_lives.f k  = some r) :
  Calls Try.prog 23 #[] w fun e w' => e = .returned (.bool r) ∧ Below w.heap.size w w' := by
 have HB := Aside0.mk (Below.refl w.heap.size w)
 have H : ((claw_Take.f k (([10, 30] : List Int)) 4).bind fun bt468 => (if bt468.2 = 0 then ((slices_Equal_int64_int64.f k bt468.1 (([1, 3] : List Int))).bind fun t475 => (some t475)) else (some false))) = some r := h
 clear h
 obtain ⟨y465, hy465⟩ : ∃ y_ : List Int, y_ = (([10, 30] : List Int)) := ⟨_, rfl⟩
 replace H : ((claw_Take.f k y465 4).bind fun bt468 => (if bt468.2 = 0 then ((slices_Equal_int64_int64.f k bt468.1 (([1, 3] : List Int))).bind fun t475 => (some t475)) else (some false))) = some r := by first | (rw [hy465]; with_reducible exact H) | (have H2_ := (Option.bind_some _ _).symm.trans H; rw [hy465]; with_reducible exact H2_) | (have H2_ := (Option.bind_some _ _).symm.trans H; with_reducible exact H2_) | with_reducible exact H | (rw [hy465]; exact H) | exact H
 have Ny465 := Aside0.mk hy465
 clear hy465
 replace H := Option.bind_eq_some_iff.mp H
 obtain ⟨⟨t468, t469⟩, A10, H⟩ := H
 replace H : (if t469 = 0 then ((slices_Equal_int64_int64.f k t468 (([1, 3] : List Int))).bind fun t475 => (some t475)) else (some false)) = some r := H
 have A1 := Aside0.mk A10
 clear A10
 by_cases c2 : t469 = 0
 ·rw [if_pos c2] at H
  have c2b0 : (t469 == 0) = true := beq_iff_eq.mpr c2
  have c2b1 : (t469 != 0) = false := bne_eq_false_iff_eq.mpr c2
  clear c2
  obtain ⟨y472, hy472⟩ : ∃ y_ : List Int, y_ = (([1, 3] : List Int)) := ⟨_, rfl⟩
  replace H : ((slices_Equal_int64_int64.f k t468 y472).bind fun t475 => (some t475)) = some r := by first | (rw [hy472]; with_reducible exact H) | (have H2_ := (Option.bind_some _ _).symm.trans H; rw [hy472]; with_reducible exact H2_) | (have H2_ := (Option.bind_some _ _).symm.trans H; with_reducible exact H2_) | with_reducible exact H | (rw [hy472]; exact H) | exact H
  have Ny472 := Aside0.mk hy472
  clear hy472
  replace H := Option.bind_eq_some_iff.mp H
  obtain ⟨t475, A30, H⟩ := H
  replace H : (some t475) = some r := H
  have A3 := Aside0.mk A30
  clear A30
  obtain rfl := Option.some.inj H
  go_enter Try.func23, Try.ntmps23
  go_wp2_with (first | ((with_reducible refine gate_dst (N := 4) rfl ?_); (try (refine gate_guard (by rfl) ?_; dsimp only)); refine Kd.R_lit (Kd.int .i64) _ 2 ?hg (N := 4) ?hd (xs := ([10, 30] : List Int)) (inner := [.int .i64 10, .int .i64 30]) (ok := fun _ => True) (okp := fun _ => True) ?hr ?hp (fun _ hk => hk) trivial (Below.refl _ _) (Nat.le_refl _) (by simp) ?_; (case hd => rfl); (case hg => rfl); (case hr => first | (go_simp; done) | (go_simp; rfl)); (case hp => exact (Reps.one (show Kd.M (Kd.int .i64) _ _ _ 10 [.int .i64 10] from rfl) (Reps.one (show Kd.M (Kd.int .i64) _ _ _ 30 [.int .i64 30] from rfl) (Reps.none _ _)))); intro v466 w4 ho5 hb hg_ hnew_; clear hg_ hnew_; (first | rw [← Ny465.out] at ho5 | (simp only [Int.reduceToNat] at ho5; rw [← Ny465.out] at ho5)); have n0_ := Aside0.mk (Kd.R_lower ho5 (below_size (by repeat (first | (with_reducible first | exact HB.out | apply below_alloc | apply pw_below_drewN | apply below_drew1) | exact HB.out)))); have n1_ := Aside0.mk (below_step (by repeat (first | (with_reducible first | exact HB.out | apply below_alloc | apply pw_below_drewN | apply below_drew1) | exact HB.out)) hb); clear HB; have HO467 := n0_; have HB := n1_; clear n0_ n1_; clear hb ho5; obtain ⟨Ao6, co6, eo6⟩ := Kd.R_slice HO467.out; subst eo6) | ((with_reducible refine gate_callee (f := 25) rfl ?_); refine goesL_ (some 5) rfl rfl Try.func25 (by kernel_rfl) rfl #[.slice Ao6 y465.length co6, .int .i64 4] rfl (by (try simp only [List.map_toArray, List.map_cons, List.map_nil]); first | done | rfl | (simp only [List.length_drop, List.length_take]; rfl)) ?_; (with_reducible refine (claw_Take.calls k _ _ y465 4 t468 t469 _ ?side1 ?side2 A1.out).mono ?_); (case side1 => repeat (first | exact (Kd.R_reads' HO467.out).2.2 | (with_reducible refine Kd.C_alloc ?_ _) | (with_reducible refine Kd.C_drewN ?_ _) | (with_reducible refine Kd.C_drew ?_))); (case side2 => exact (Kd.R_reads' HO467.out).2.1); rintro e w7 ⟨v470, rfl, ho0, hb⟩; refine ⟨_, rfl, ?_⟩; have n0_ := Aside0.mk (Kd.R_elder' (by (with_reducible repeat (first | apply Kd.R_alloc | apply Kd.R_drewN | apply Kd.R_drew)); exact HO467.out) (Kd.R_base ho0) hb); have n1_ := Aside0.mk (Kd.R_lower (Kd.R_new' ho0 (Kd.R_lt (by (with_reducible repeat (first | apply Kd.R_alloc | apply Kd.R_drewN | apply Kd.R_drew)); exact HO467.out))) (below_size (by repeat (first | (with_reducible first | exact HB.out | apply below_alloc | apply pw_below_drewN | apply below_drew1) | exact HB.out)))); have n2_ := Aside0.mk (below_step (by repeat (first | (with_reducible first | exact HB.out | apply below_alloc | apply pw_below_drewN | apply below_drew1) | exact HB.out)) hb); clear HO467; clear HB; have HO467 := n0_; have HO471 := n1_; have HB := n2_; clear n0_ n1_ n2_; (try clear hb); (try clear hb2); (try clear hk); (try clear hi); (try clear ho0)) | ((with_reducible refine gate_dst (N := 12) rfl ?_); (try (refine gate_guard (by rfl) ?_; dsimp only)); refine Kd.R_lit (Kd.int .i64) _ 2 ?hg (N := 12) ?hd (xs := ([1, 3] : List Int)) (inner := [.int .i64 1, .int .i64 3]) (ok := fun _ => True) (okp := fun _ => True) ?hr ?hp (fun _ hk => hk) trivial (Below.refl _ _) (Nat.le_refl _) (by simp) ?_; (case hd => rfl); (case hg => rfl); (case hr => first | (go_simp; done) | (go_simp; rfl)); (case hp => exact (Reps.one (show Kd.M (Kd.int .i64) _ _ _ 1 [.int .i64 1] from rfl) (Reps.one (show Kd.M (Kd.int .i64) _ _ _ 3 [.int .i64 3] from rfl) (Reps.none _ _)))); intro v473 w8 ho9 hb hg_ hnew_; clear hg_ hnew_; (first | rw [← Ny472.out] at ho9 | (simp only [Int.reduceToNat] at ho9; rw [← Ny472.out] at ho9)); have n0_ := Aside0.mk (Kd.R_elder' (by (with_reducible repeat (first | apply Kd.R_alloc | apply Kd.R_drewN | apply Kd.R_drew)); exact HO467.out) (Kd.R_base ho9) hb); have n1_ := Aside0.mk (Kd.R_elder' (by (with_reducible repeat (first | apply Kd.R_alloc | apply Kd.R_drewN | apply Kd.R_drew)); exact HO471.out) (Kd.R_base ho9) hb); have n2_ := Aside0.mk (Kd.R_lower (Kd.R_new' (Kd.R_new' ho9 (Kd.R_lt (by (with_reducible repeat (first | apply Kd.R_alloc | apply Kd.R_drewN | apply Kd.R_drew)); exact HO467.out))) (Kd.R_lt (by (with_reducible repeat (first | apply Kd.R_alloc | apply Kd.R_drewN | apply Kd.R_drew)); exact HO471.out))) (below_size (by repeat (first | (with_reducible first | exact HB.out | apply below_alloc | apply pw_below_drewN | apply below_drew1) | exact HB.out)))); have n3_ := Aside0.mk (below_step (by repeat (first | (with_reducible first | exact HB.out | apply below_alloc | apply pw_below_drewN | apply below_drew1) | exact HB.out)) hb); clear HO467; clear HO471; clear HB; have HO467 := n0_; have HO471 := n1_; have HO474 := n2_; have HB := n3_; clear n0_ n1_ n2_ n3_; clear hb ho9; obtain ⟨Ao10, co10, eo10⟩ := Kd.R_slice HO471.out; subst eo10; obtain ⟨Ao11, co11, eo11⟩ := Kd.R_slice HO474.out; subst eo11) | (go_at_call 22; (with_reducible refine (slices_Equal_int64_int64.calls k _ _ t468 _ _ y472 t475 _ ?side1 ?side2 ?side3 ?side4 A3.out).mono ?_); (case side1 => repeat (first | exact (Kd.R_reads' HO471.out).2.2 | (with_reducible refine Kd.C_alloc ?_ _) | (with_reducible refine Kd.C_drewN ?_ _) | (with_reducible refine Kd.C_drew ?_))); (case side2 => exact (Kd.R_reads' HO471.out).2.1); (case side3 => repeat (first | exact (Kd.R_reads' HO474.out).2.2 | (with_reducible refine Kd.C_alloc ?_ _) | (with_reducible refine Kd.C_drewN ?_ _) | (with_reducible refine Kd.C_drew ?_))); (case side4 => exact (Kd.R_reads' HO474.out).2.1); rintro e w' ⟨rfl, ⟨nd, rfl⟩⟩))
  go_ret
  exact ⟨by first | rfl | (simp [errW_none, errW_some] <;> rfl) | (simp [*, errW_none, errW_some] <;> rfl), by repeat (first | (with_reducible first | exact HB.out | apply below_alloc | apply pw_below_drewN | apply below_drew1) | exact HB.out)⟩
 ·rw [if_neg c2] at H
  have c2b0 : (t469 == 0) = false := beq_eq_false_iff_ne.mpr c2
  have c2b1 : (t469 != 0) = true := bne_iff_ne.mpr c2
  obtain rfl := Option.some.inj H
  go_enter Try.func23, Try.ntmps23
  go_wp2_with (first | ((with_reducible refine gate_dst (N := 4) rfl ?_); (try (refine gate_guard (by rfl) ?_; dsimp only)); refine Kd.R_lit (Kd.int .i64) _ 2 ?hg (N := 4) ?hd (xs := ([10, 30] : List Int)) (inner := [.int .i64 10, .int .i64 30]) (ok := fun _ => True) (okp := fun _ => True) ?hr ?hp (fun _ hk => hk) trivial (Below.refl _ _) (Nat.le_refl _) (by simp) ?_; (case hd => rfl); (case hg => rfl); (case hr => first | (go_simp; done) | (go_simp; rfl)); (case hp => exact (Reps.one (show Kd.M (Kd.int .i64) _ _ _ 10 [.int .i64 10] from rfl) (Reps.one (show Kd.M (Kd.int .i64) _ _ _ 30 [.int .i64 30] from rfl) (Reps.none _ _)))); intro v466 w12 ho13 hb hg_ hnew_; clear hg_ hnew_; (first | rw [← Ny465.out] at ho13 | (simp only [Int.reduceToNat] at ho13; rw [← Ny465.out] at ho13)); have n0_ := Aside0.mk (Kd.R_lower ho13 (below_size (by repeat (first | (with_reducible first | exact HB.out | apply below_alloc | apply pw_below_drewN | apply below_drew1) | exact HB.out)))); have n1_ := Aside0.mk (below_step (by repeat (first | (with_reducible first | exact HB.out | apply below_alloc | apply pw_below_drewN | apply below_drew1) | exact HB.out)) hb); clear HB; have HO467 := n0_; have HB := n1_; clear n0_ n1_; clear hb ho13; obtain ⟨Ao14, co14, eo14⟩ := Kd.R_slice HO467.out; subst eo14) | ((with_reducible refine gate_callee (f := 25) rfl ?_); refine goesL_ (some 5) rfl rfl Try.func25 (by kernel_rfl) rfl #[.slice Ao14 y465.length co14, .int .i64 4] rfl (by (try simp only [List.map_toArray, List.map_cons, List.map_nil]); first | done | rfl | (simp only [List.length_drop, List.length_take]; rfl)) ?_; (with_reducible refine (claw_Take.calls k _ _ y465 4 t468 t469 _ ?side1 ?side2 A1.out).mono ?_); (case side1 => repeat (first | exact (Kd.R_reads' HO467.out).2.2 | (with_reducible refine Kd.C_alloc ?_ _) | (with_reducible refine Kd.C_drewN ?_ _) | (with_reducible refine Kd.C_drew ?_))); (case side2 => exact (Kd.R_reads' HO467.out).2.1); rintro e w15 ⟨v470, rfl, ho0, hb⟩; refine ⟨_, rfl, ?_⟩; have n0_ := Aside0.mk (Kd.R_elder' (by (with_reducible repeat (first | apply Kd.R_alloc | apply Kd.R_drewN | apply Kd.R_drew)); exact HO467.out) (Kd.R_base ho0) hb); have n1_ := Aside0.mk (Kd.R_lower (Kd.R_new' ho0 (Kd.R_lt (by (with_reducible repeat (first | apply Kd.R_alloc | apply Kd.R_drewN | apply Kd.R_drew)); exact HO467.out))) (below_size (by repeat (first | (with_reducible first | exact HB.out | apply below_alloc | apply pw_below_drewN | apply below_drew1) | exact HB.out)))); have n2_ := Aside0.mk (below_step (by repeat (first | (with_reducible first | exact HB.out | apply below_alloc | apply pw_below_drewN | apply below_drew1) | exact HB.out)) hb); clear HO467; clear HB; have HO467 := n0_; have HO471 := n1_; have HB := n2_; clear n0_ n1_ n2_; (try clear hb); (try clear hb2); (try clear hk); (try clear hi); (try clear ho0)))
  go_ret
  exact ⟨by first | rfl | (simp [errW_none, errW_some] <;> rfl) | (simp [*, errW_none, errW_some] <;> rfl), by repeat (first | (with_reducible first | exact HB.out | apply below_alloc | apply pw_below_drewN | apply below_drew1) | exact HB.out)⟩
end Go.Proofs.Ytncnhhnbjmpomaa.Q
namespace Go.Proofs.Ytncnhhnbjmpomaa.Q
open Go.RowKit Go.Proofs.YtncnhhnbjmpomaaW.PrintWords Go.Proofs.YtncnhhnbjmpomaaW.PrintLast
set_option linter.unusedVariables false
set_option linter.unusedSimpArgs false
open Go.Proofs.Kq (Reads wpList_append_any)
open Go.Proofs.Ytncnhhnbjmpomaa
theorem reads_ints {k : IntKind} {w : World} {A : Option Addr} {xs : List Int} (h : Kd.C (Kd.int k) w A xs.length xs) : Reads w w.heap.size 1 A xs.length (encs (Value.int k) xs) := by
  refine ⟨by rw [encs_length]; omega, fun hn => ?_⟩
  obtain ⟨ad, e, hc⟩ := (Kd.reads_of_C (d := (0 : Int)) h).2.2 hn
  refine ⟨ad, e, ?_, fun j u hu => ?_⟩
  · have := World.block_lt_of_cell? w _ (hc 0 hn)
    rwa [Kq.block_of_add] at this
  · obtain ⟨hj, hju⟩ := List.getElem?_eq_some_iff.1 hu
    rw [encs_length] at hj
    rw [hc j hj, List.getD_eq_getElem?_getD, List.getElem?_eq_getElem hj]
    simp [encs] at hju
    simp [hju]
theorem encs_one (k : IntKind) (xs : List Int) : ∀ u ∈ encs (Value.int k) xs, u.oneCell' = true := by
  intro u hu; obtain ⟨z, _, rfl⟩ := List.mem_map.1 hu; rfl
def slices_Clone_int64_int64.f (l0 : List Int) : Option (List Int) := if l0.length ≤ 1000000 then some l0 else none
set_option maxRecDepth 100000 in
set_option maxHeartbeats 1000000 in
theorem slices_Clone_int64_int64.calls (A0 : Option Addr) (c0 : Nat) (l0 : List Int) (r : List Int) (w : World) (hr0 : Kd.C (Kd.int .i64) w A0 l0.length l0) (hc0 : l0.length ≤ c0) (h : slices_Clone_int64_int64.f l0 = some r) :
    Calls Try.prog 24 #[.slice A0 l0.length c0] w fun e w' => ∃ v0_ : Value, e = .returned (v0_) ∧ Kd.R (Kd.int .i64) 2 w' w.heap.size (fun _ => True) v0_ r ∧ Below w.heap.size w w' := by
  unfold slices_Clone_int64_int64.f at h
  split at h
  · rename_i hb
    cases h
    obtain ⟨i0, hi, hz0, hz1, hz2⟩ := info_parts info2
    cases A0 with
    | none =>
      have h0 : l0 = [] := by
        cases l0 with
        | nil => rfl
        | cons x xs => obtain ⟨ad, e, _⟩ := hr0.2.2 (by simp); cases e
      subst h0
      exact (Go.Proofs.Try.slices_Clone_nil _ _ w).mono fun e w' ⟨he, hw⟩ => ⟨_, he, Kd.R_nil _ _ _ _ _, hw ▸ Below.refl _ _⟩
    | some ad =>
      have he := fun w => Lib.run_eql_slice_nil (P := Try.prog) w 22 2 (some ad) l0.length c0 0 0 Try.underlying22
      have HR := reads_ints hr0
      clear hr0
      go_enter Try.func24, Try.ntmps24
      go_wp2_with (at_builtin; refine wpList_append_any _ rfl (.tmp 5) (.tmp 6) 22 rfl w.heap.size 2 i0 (.int .i64 0) 1 8 Try.underlying22 hi hz0 hz1 hz2 rfl (by decide) (.slice (some ⟨w.heap.size, 0, none⟩) 0 0) 0 [] rfl ?aO w.heap.size (some ad) l0.length c0 (encs (Value.int .i64) l0) rfl ?aR (encs_one _ l0) ?aM ?aB ?aS ?_; (case aO => exact ⟨rfl, .inr ⟨w.heap.size, 0, #[], rfl, Nat.le_refl _, by (show (w.heap.push _)[w.heap.size]? = _; simp), Nat.le_refl _, by decide, rfl, rfl⟩⟩); (case aR => exact HR.alloc (Nat.le_refl _) _); (case aM => simp only [maxLen]; omega); (case aB => omega); (case aS => simp); intro v1 w1 hown hg hat)
      go_ret
      exact ⟨_, rfl, Kd.R_of_own (by simpa using hown) (fun _ _ => trivial), (below_new (Below.refl _ _) _).grown hg (by simp) (fun k hk => by cases hk; exact Nat.le_refl _)⟩
  · cases h
end Go.Proofs.Ytncnhhnbjmpomaa.Q
namespace Go.Proofs.Ytncnhhnbjmpomaa.Q
open Go.RowKit Go.Proofs.YtncnhhnbjmpomaaW.PrintWords Go.Proofs.YtncnhhnbjmpomaaW.PrintLast Go.Proofs.YtncnhhnbjmpomaaW.PrintMore
attribute [local go_sem] max2_int min2_int max_two min_two max_three min_three max_four min_four   -- for this text's walks alone
set_option linter.unusedVariables false
set_option linter.unusedSimpArgs false
def soukref01_Add.j0 : Nat → Int → Int → Bool → Option (Int × Bool)
 | 0, _, _, _ => none
 | k + 1, x0, x1, x13 => if x13 = true then (some (0, false)) else (if x1 < 0 then (if x0 < (wrap64 ((-9223372036854775808) - x1)) then (some (0, false)) else (some (wrap64 (x0 + x1), true))) else (some (wrap64 (x0 + x1), true)))
def soukref01_Add.f (k : Nat) (a0 : Int) (a1 : Int) : Option (Int × Bool) := if a1 > 0 then (soukref01_Add.j0 k a0 a1 (decide (a0 > (wrap64 (9223372036854775807 - a1))))) else (soukref01_Add.j0 k a0 a1 false)
set_option maxHeartbeats 8000000 in
set_option maxRecDepth 100000 in
theorem soukref01_Add.calls (k : Nat) (a0 : Int) (a1 : Int) (r1 : Int) (r2 : Bool) (w : World) (h : soukref01_Add.f k a0 a1 = some (r1, r2)) :
  Calls Try.prog 37 #[.int .i64 a0, .int .i64 a1] w fun e w' => e = .returned (.tuple #[.int .i64 r1, .bool r2]) ∧ Drawn0 w w' := by
 have H : (if a1 > 0 then (soukref01_Add.j0 k a0 a1 (decide (a0 > (wrap64 (9223372036854775807 - a1))))) else (soukref01_Add.j0 k a0 a1 false)) = some (r1, r2) := h
 clear h
 have HC3 := Aside0.mk H
 clear H
 go_enter Try.func37, Try.ntmps37
 go_upto_region 1 with (fail)
 go_cut [13] (fun v13 wc => ∃ (kq : Nat) (x13_2 : Bool), v13 = .bool x13_2 ∧ Aside0 (soukref01_Add.j0 kq a0 a1 x13_2 = some (r1, r2)) ∧ Aside0 (kq ≤ k) ∧ Drawn0 w wc)
 case first =>
  have H := HC3.out
  clear HC3
  by_cases c4 : a1 > 0
  ·rw [if_pos c4] at H
   have c4b0 : decide (0 < a1) = true := decide_eq_true c4
   clear c4
   (first | rw [c4b0] | (simp only [i64_w, i32_w]; rw [c4b0]) | skip)
   have H' := Aside0.mk H
   clear H
   go_wp2
   go_meet
   case rel => exact ⟨_, (decide (a0 > (wrap64 (9223372036854775807 - a1)))), (by first | rfl | (simp; done) | (simp [*]; done)), H', ⟨by first | omega | exact Nat.le_refl _⟩, by repeat (first | exact Drawn0.refl _ | apply Drawn0.step)⟩
  ·rw [if_neg c4] at H
   have c4b0 : decide (0 < a1) = false := decide_eq_false c4
   clear c4
   (first | rw [c4b0] | (simp only [i64_w, i32_w]; rw [c4b0]) | skip)
   have H' := Aside0.mk H
   clear H
   go_wp2
   go_meet
   case rel => exact ⟨_, (false), (by first | rfl | (simp; done) | (simp [*]; done)), H', ⟨by first | omega | exact Nat.le_refl _⟩, by repeat (first | exact Drawn0.refl _ | apply Drawn0.step)⟩
 case rest =>
  clear HC3
  try clear p2
  try clear c3
  try clear c4
  try clear c4b0
  obtain ⟨kq, x13_2, rfl, HA, HJ2, ⟨mc2, rfl⟩⟩ := hcut
  cases kq with
  | zero => exact absurd HA.out (by simp [soukref01_Add.j0])
  | succ kj2 =>
   have H := HA.out
   clear HA
   simp only [soukref01_Add.j0] at H
   by_cases c5 : x13_2 = true
   ·subst c5
    have H1 : (some (0, false)) = some (r1, r2) := by rw [if_pos rfl] at H; exact H
    clear H
    have H := H1
    clear H1
    simp only [Option.some.injEq, Prod.mk.injEq] at H
    obtain ⟨rfl, rfl⟩ := H
    go_wp2
    go_ret2
    exact ⟨by first | rfl | (simp; done) | (simp [*]; done), by repeat (first | exact Drawn0.refl _ | apply Drawn0.step)⟩
   ·replace c5 := Bool.eq_false_iff.mpr c5
    subst c5
    have H1 : (if a1 < 0 then (if a0 < (wrap64 ((-9223372036854775808) - a1)) then (some (0, false)) else (some (wrap64 (a0 + a1), true))) else (some (wrap64 (a0 + a1), true))) = some (r1, r2) := by rw [if_neg (show ¬ (false = true) by decide)] at H; exact H
    clear H
    have H := H1
    clear H1
    by_cases c6 : a1 < 0
    ·rw [if_pos c6] at H
     have c6b0 : decide (a1 < 0) = true := decide_eq_true c6
     clear c6
     by_cases c7 : a0 < (wrap64 ((-9223372036854775808) - a1))
     ·rw [if_pos c7] at H
      have c7b0 : decide (a0 < (wrap64 ((-9223372036854775808) - a1))) = true := decide_eq_true c7
      clear c7
      simp only [Option.some.injEq, Prod.mk.injEq] at H
      obtain ⟨rfl, rfl⟩ := H
      go_wp2
      go_ret2
      exact ⟨by first | rfl | (simp; done) | (simp [*]; done), by repeat (first | exact Drawn0.refl _ | apply Drawn0.step)⟩
     ·rw [if_neg c7] at H
      have c7b0 : decide (a0 < (wrap64 ((-9223372036854775808) - a1))) = false := decide_eq_false c7
      clear c7
      simp only [Option.some.injEq, Prod.mk.injEq] at H
      obtain ⟨rfl, rfl⟩ := H
      go_wp2
      go_ret2
      exact ⟨by first | rfl | (simp; done) | (simp [*]; done), by repeat (first | exact Drawn0.refl _ | apply Drawn0.step)⟩
    ·rw [if_neg c6] at H
     have c6b0 : decide (a1 < 0) = false := decide_eq_false c6
     clear c6
     simp only [Option.some.injEq, Prod.mk.injEq] at H
     obtain ⟨rfl, rfl⟩ := H
     go_wp2
     go_ret2
     exact ⟨by first | rfl | (simp; done) | (simp [*]; done), by repeat (first | exact Drawn0.refl _ | apply Drawn0.step)⟩
end Go.Proofs.Ytncnhhnbjmpomaa.Q
namespace Go.Proofs.Ytncnhhnbjmpomaa.Q
open Go.RowKit Go.Proofs.YtncnhhnbjmpomaaW.PrintWords Go.Proofs.YtncnhhnbjmpomaaW.PrintLast Go.Proofs.YtncnhhnbjmpomaaW.PrintMore
attribute [local go_sem] max2_int min2_int max_two min_two max_three min_three max_four min_four   -- for this text's walks alone
set_option linter.unusedVariables false
set_option linter.unusedSimpArgs false
def soukref01_Sum.l0 : Nat → List Int → Int → Int → Option (Int × Bool)
 | 0, _, _, _ => none
 | k + 1, x0, x4, x5 => if x5 < (x0.length : Int) then (if 0 ≤ x5 then ((soukref01_Add.f k x4 (rd x0 x5)).bind fun bt129 => (if bt129.2 = true then (soukref01_Sum.l0 k x0 bt129.1 (wrap64 (x5 + 1))) else (some (0, false)))) else (none)) else (some (x4, true))
def soukref01_Sum.f (k : Nat) (l0 : List Int) : Option (Int × Bool) := soukref01_Sum.l0 k l0 0 0
set_option maxHeartbeats 8000000 in
set_option maxRecDepth 100000 in
theorem soukref01_Sum.calls (k : Nat) (A0 : Option Addr) (c0 : Nat) (l0 : List Int) (r1 : Int) (r2 : Bool) (w : World) (hr0 : Kd.C (Kd.int .i64) w A0 l0.length l0) (hc0 : l0.length ≤ c0) (h : soukref01_Sum.f k l0 = some (r1, r2)) :
  Calls Try.prog 14 #[.slice A0 l0.length c0] w fun e w' => e = .returned (.tuple #[.int .i64 r1, .bool r2]) ∧ Drawn0 w w' := by
 have HR0 := Aside0.mk hr0
 have HC0 := Aside0.mk hc0
 clear hr0 hc0
 have H : (soukref01_Sum.l0 k l0 0 0) = some (r1, r2) := h
 clear h
 have H' := Aside0.mk H
 clear H
 go_enter Try.func14, Try.ntmps14
 go_wp2
 go_loopg [4, 5] k (fun kq v4 v5 w' => ∃ (x4_1 : Int) (x5_1 : Int), v4 = .int .i64 x4_1 ∧ v5 = .int .i64 x5_1 ∧ Aside0 (soukref01_Sum.l0 kq l0 x4_1 x5_1 = some (r1, r2)) ∧ Aside0 (kq ≤ k) ∧ Drawn0 w w')
 case atStart => exact ⟨(0), (0), (by first | rfl | (simp; done) | (simp [*]; done)), (by first | rfl | (simp; done) | (simp [*]; done)), H', ⟨Nat.le_refl _⟩, by repeat (first | exact Drawn0.refl _ | apply Drawn0.step)⟩
 case round =>
  clear H'
  try clear c1
  obtain ⟨x4_1, x5_1, rfl, rfl, HA, HK1, ⟨m1, rfl⟩⟩ := hrel
  cases gk with
  | zero => exact absurd HA.out (by simp [soukref01_Sum.l0])
  | succ k1 =>
   have H := HA.out
   clear HA
   simp only [soukref01_Sum.l0] at H
   by_cases c2 : x5_1 < (l0.length : Int)
   ·rw [if_pos c2] at H
    have c2b0 : decide (x5_1 < (l0.length : Int)) = true := decide_eq_true c2
    clear c2
    by_cases c3 : 0 ≤ x5_1
    ·rw [if_pos c3] at H
     have c3b0 : decide (0 ≤ x5_1) = true := decide_eq_true c3
     clear c3
     replace H := Option.bind_eq_some_iff.mp H
     obtain ⟨⟨t129, t130⟩, A40, H⟩ := H
     replace H : (if t130 = true then (soukref01_Sum.l0 k1 l0 t129 (wrap64 (x5_1 + 1))) else (some (0, false))) = some (r1, r2) := H
     have A4 := Aside0.mk A40
     clear A40
     by_cases c5 : t130 = true
     ·subst c5
      have H1 : (soukref01_Sum.l0 k1 l0 t129 (wrap64 (x5_1 + 1))) = some (r1, r2) := by rw [if_pos rfl] at H; exact H
      clear H
      have H := H1
      clear H1
      have H' := Aside0.mk H
      clear H
      have p128 : 0 ≤ (x5_1 : Int) := of_decide_eq_true (by first | (with_reducible assumption) | assumption)
      have q128 : x5_1 < (l0.length : Int) := of_decide_eq_true (by first | (with_reducible assumption) | assumption)
      obtain ⟨ad128, e128, hx128_0⟩ := Kd.at_int HR0.out x5_1 p128 q128
      cases e128
      replace p128 := eq_true p128
      replace q128 := eq_true q128
      go_wp2_with (first | ((with_reducible refine gate_callee (f := 37) rfl ?_); refine goesL_ (some 20) rfl rfl Try.func37 (by kernel_rfl) rfl #[.int .i64 x4_1, .int .i64 (rd l0 x5_1)] rfl (by (try simp only [List.map_toArray, List.map_cons, List.map_nil]); first | done | rfl | (simp only [List.length_drop, List.length_take]; rfl)) ?_; (with_reducible refine (soukref01_Add.calls k1 x4_1 (rd l0 x5_1) t129 true _ A4.out).mono ?_); rintro e w' ⟨rfl, ⟨nd, rfl⟩⟩; refine ⟨_, rfl, ?_⟩))
      go_roundg k1
      case measure => have := HK1.out; omega
      case rel => exact ⟨(t129), (wrap64 (x5_1 + 1)), (by first | rfl | (simp; done) | (simp [*]; done)), (by first | rfl | (simp; done) | (simp [*]; done)), H', ⟨by have := HK1.out; omega⟩, by repeat (first | exact Drawn0.refl _ | apply Drawn0.step)⟩
     ·replace c5 := Bool.eq_false_iff.mpr c5
      subst c5
      have H1 : (some (0, false)) = some (r1, r2) := by rw [if_neg (show ¬ (false = true) by decide)] at H; exact H
      clear H
      have H := H1
      clear H1
      simp only [Option.some.injEq, Prod.mk.injEq] at H
      obtain ⟨rfl, rfl⟩ := H
      have p128 : 0 ≤ (x5_1 : Int) := of_decide_eq_true (by first | (with_reducible assumption) | assumption)
      have q128 : x5_1 < (l0.length : Int) := of_decide_eq_true (by first | (with_reducible assumption) | assumption)
      obtain ⟨ad128, e128, hx128_0⟩ := Kd.at_int HR0.out x5_1 p128 q128
      cases e128
      replace p128 := eq_true p128
      replace q128 := eq_true q128
      go_wp2_with (first | ((with_reducible refine gate_callee (f := 37) rfl ?_); refine goesL_ (some 20) rfl rfl Try.func37 (by kernel_rfl) rfl #[.int .i64 x4_1, .int .i64 (rd l0 x5_1)] rfl (by (try simp only [List.map_toArray, List.map_cons, List.map_nil]); first | done | rfl | (simp only [List.length_drop, List.length_take]; rfl)) ?_; (with_reducible refine (soukref01_Add.calls k1 x4_1 (rd l0 x5_1) t129 false _ A4.out).mono ?_); rintro e w' ⟨rfl, ⟨nd, rfl⟩⟩; refine ⟨_, rfl, ?_⟩))
      go_ret2
      exact ⟨by first | rfl | (simp; done) | (simp [*]; done), by repeat (first | exact Drawn0.refl _ | apply Drawn0.step)⟩
    ·rw [if_neg c3] at H
     exact absurd H (by simp)
   ·rw [if_neg c2] at H
    have c2b0 : decide (x5_1 < (l0.length : Int)) = false := decide_eq_false c2
    clear c2
    simp only [Option.some.injEq, Prod.mk.injEq] at H
    obtain ⟨rfl, rfl⟩ := H
    go_wp2
    go_ret2
    exact ⟨by first | rfl | (simp; done) | (simp [*]; done), by repeat (first | exact Drawn0.refl _ | apply Drawn0.step)⟩
end Go.Proofs.Ytncnhhnbjmpomaa.Q
namespace Go.Proofs.Ytncnhhnbjmpomaa.Q
open Go.RowKit Go.Proofs.YtncnhhnbjmpomaaW.PrintWords Go.Proofs.YtncnhhnbjmpomaaW.PrintLast Go.Proofs.YtncnhhnbjmpomaaW.PrintMore
attribute [local go_sem] max2_int min2_int max_two min_two max_three min_three max_four min_four   -- for this text's walks alone
set_option linter.unusedVariables false
set_option linter.unusedSimpArgs false
def soukref01_trim.l0 : Nat → List Bool → Int → Option (List Bool)
 | 0, _, _ => none
 | k + 1, x0, x3 => if x3 > 0 then (if 0 ≤ (wrap64 (x3 - 1)) then (if (wrap64 (x3 - 1)) < (x0.length : Int) then (if (rdOf false x0 (wrap64 (x3 - 1)) = true) then (if 0 ≤ x3 then (if x3 ≤ (x0.length : Int) then (some (x0.take (x3 : Int).toNat)) else (none)) else (none)) else (soukref01_trim.l0 k x0 (wrap64 (x3 - 1)))) else (none)) else (none)) else (if 0 ≤ x3 then (if x3 ≤ (x0.length : Int) then (some (x0.take (x3 : Int).toNat)) else (none)) else (none))
def soukref01_trim.f (k : Nat) (l0 : List Bool) : Option (List Bool) := soukref01_trim.l0 k l0 (l0.length : Int)
set_option maxHeartbeats 8000000 in
set_option maxRecDepth 100000 in
theorem soukref01_trim.calls (k : Nat) (P0_ : Nat → Prop) (u9000_ : Value) (l0 : List Bool) (r : List Bool) (w0 w : World) (hB : Below w0.heap.size w0 w) (ho0 : Kd.R Kd.bool 4 w w0.heap.size P0_ u9000_ l0) (h : soukref01_trim.f k l0 = some r) :
  Calls Try.prog 46 #[u9000_] w fun e w' => ∃ v0_ : Value, e = .returned (v0_) ∧ Kd.R Kd.bool 4 w' w0.heap.size (fun k_ => (P0_ k_ ∨ w.heap.size ≤ k_)) v0_ r ∧ Below w0.heap.size w0 w' ∧ Kept w w' (fun k_ => P0_ k_) := by
 have HO0 := Aside0.mk (show Kd.R Kd.bool 4 w w0.heap.size (fun k_ => (P0_ k_ ∨ w.heap.size ≤ k_)) u9000_ l0 from Kd.R_mono ho0 (fun k_ hk => (.inl hk)))
 have HK := Aside0.mk (Kept.refl w (fun k_ => P0_ k_))
 have HW0 := Aside0.mk hB.size
 have HB := Aside0.mk hB
 clear hB
 have H : (soukref01_trim.l0 k l0 (l0.length : Int)) = some r := h
 clear h
 have H' := Aside0.mk H
 clear H
 obtain ⟨Ao2, co2, eo2⟩ := Kd.R_slice HO0.out
 subst eo2
 go_enter Try.func46, Try.ntmps46
 go_wp2
 go_loopg [3] k (fun kq v3 w' => ∃ (x3_1 : Int), v3 = .int .i64 x3_1 ∧ Aside0 (soukref01_trim.l0 kq l0 x3_1 = some r) ∧ Aside0 (kq ≤ k) ∧ Aside0 (Kd.R Kd.bool 4 w' w0.heap.size (fun k_ => (P0_ k_ ∨ w.heap.size ≤ k_)) (.slice Ao2 l0.length co2) l0) ∧ Aside0 (Kept w w' (fun k_ => P0_ k_)) ∧ Aside0 (Below w0.heap.size w0 w'))
 case atStart => exact ⟨((l0.length : Int)), (by first | rfl | (simp; done) | (simp [*]; done)), H', ⟨Nat.le_refl _⟩, ⟨by (with_reducible repeat (first | apply Kd.R_alloc | apply Kd.R_drewN | apply Kd.R_drew)); exact HO0.out⟩, ⟨by repeat (first | (with_reducible first | exact HK.out | apply Kept.alloc | apply Kept.drewN | apply Kept.drew) | exact HK.out)⟩, ⟨by repeat (first | (with_reducible first | exact HB.out | apply below_alloc | apply pw_below_drewN | apply below_drew1) | exact HB.out)⟩⟩
 case round =>
  clear H'
  try clear p2
  obtain ⟨x3_1, rfl, HA, HK1, HO_0, HK, HB⟩ := hrel
  cases gk with
  | zero => exact absurd HA.out (by simp [soukref01_trim.l0])
  | succ k1 =>
   have H := HA.out
   clear HA
   simp only [soukref01_trim.l0] at H
   by_cases c3 : x3_1 > 0
   ·rw [if_pos c3] at H
    have c3b0 : decide (0 < x3_1) = true := decide_eq_true c3
    clear c3
    obtain ⟨ji4, hji4⟩ : ∃ j_ : Int, (wrap64 (x3_1 - 1)) = j_ := ⟨_, rfl⟩
    replace H : (if 0 ≤ (ji4) then (if (ji4) < (l0.length : Int) then (if (rdOf false l0 (ji4) = true) then (if 0 ≤ x3_1 then (if x3_1 ≤ (l0.length : Int) then (some (l0.take (x3_1 : Int).toNat)) else (none)) else (none)) else (soukref01_trim.l0 k1 l0 ji4)) else (none)) else (none)) = some r := by first | (rw [hji4] at H; exact H) | (simp only [hji4] at H ⊢; exact H)
    have hji4w : (IntKind.i64.wrap (x3_1 - 1)) = ji4 := (i64_w _).trans hji4
    by_cases c5 : 0 ≤ (ji4)
    ·rw [if_pos c5] at H
     have c5b0 : decide (0 ≤ (ji4)) = true := decide_eq_true c5
     clear c5
     by_cases c6 : (ji4) < (l0.length : Int)
     ·rw [if_pos c6] at H
      have c6b0 : decide ((ji4) < (l0.length : Int)) = true := decide_eq_true c6
      clear c6
      obtain ⟨bq7, hbq7⟩ : ∃ b_ : Bool, b_ = (rdOf false l0 (ji4)) := ⟨_, rfl⟩
      replace H : (if (bq7 = true) then (if 0 ≤ x3_1 then (if x3_1 ≤ (l0.length : Int) then (some (l0.take (x3_1 : Int).toNat)) else (none)) else (none)) else (soukref01_trim.l0 k1 l0 ji4)) = some r := by rw [← hbq7] at H; exact H
      have Nbq7 := Aside0.mk hbq7
      clear hbq7
      by_cases c8 : (bq7 = true)
      ·subst c8
       have H1 : (if 0 ≤ x3_1 then (if x3_1 ≤ (l0.length : Int) then (some (l0.take (x3_1 : Int).toNat)) else (none)) else (none)) = some r := by rw [if_pos rfl] at H; exact H
       clear H
       have H := H1
       clear H1
       by_cases c9 : 0 ≤ x3_1
       ·rw [if_pos c9] at H
        have c9b0 := eq_true c9
        have c9b1 : decide (0 ≤ x3_1) = true := decide_eq_true c9
        clear c9
        by_cases c10 : x3_1 ≤ (l0.length : Int)
        ·rw [if_pos c10] at H
         have c10b0 := eq_true c10
         have c10b1 : decide (x3_1 ≤ (l0.length : Int)) = true := decide_eq_true c10
         clear c10
         obtain ⟨y198, hy198⟩ : ∃ y_ : List Bool, y_ = (l0.take (x3_1 : Int).toNat) := ⟨_, rfl⟩
         replace H : (some y198) = some r := by first | (rw [hy198]; with_reducible exact H) | (have H2_ := (Option.bind_some _ _).symm.trans H; rw [hy198]; with_reducible exact H2_) | (have H2_ := (Option.bind_some _ _).symm.trans H; with_reducible exact H2_) | with_reducible exact H | (rw [hy198]; exact H) | exact H
         have Ny198 := Aside0.mk hy198
         clear hy198
         obtain rfl := Option.some.inj H
         have p197 : 0 ≤ ((ji4) : Int) := of_decide_eq_true (by first | (with_reducible assumption) | assumption)
         have q197 : (ji4) < (l0.length : Int) := of_decide_eq_true (by first | (with_reducible assumption) | assumption)
         obtain ⟨ad197, e197, hx197_0⟩ := Kd.at_bool (Kd.R_reads' HO_0.out).2.2 (ji4) p197 q197
         (try rw [← Nbq7.out] at hx197_0)
         cases e197
         replace p197 := eq_true p197
         replace q197 := eq_true q197
         have q11 : (x3_1 : Int) ≤ ((l0.length : Int) : Int) := of_decide_eq_true (by first | (with_reducible assumption) | assumption)
         obtain ⟨i011, hi011, _, hsz11, _⟩ := info_parts info4
         have hcut11 := cut_to (P := Try.prog) 87 4 .i64 Try.underlying87 hi011 (some ad197) l0.length co2 x3_1 (of_decide_eq_true (by first | (with_reducible assumption) | assumption)) q11 (Kd.R_reads' HO_0.out).2.1
         have hr11 := Kd.R_take (m := (x3_1 : Int).toNat) HO_0.out (by omega)
         have hy11 : y198.length = (x3_1 : Int).toNat := (by rw [Ny198.out, List.length_take]; omega)
         rw [← Ny198.out] at hr11
         rw [← hy11] at hr11 hcut11
         clear hy11 hi011 hsz11 HO_0
         have HO200 := Aside0.mk hr11
         clear hr11
         replace q11 := eq_true q11
         go_wp2
         go_ret
         exact ⟨_, by first | rfl | (simp [errW_none, errW_some] <;> rfl) | (simp only [← hji4]; first | rfl | (simp [errW_none, errW_some] <;> rfl)) | (simp [*, errW_none, errW_some] <;> rfl), by (with_reducible repeat (first | apply Kd.R_alloc | apply Kd.R_drewN | apply Kd.R_drew)); exact HO200.out, by repeat (first | (with_reducible first | exact HB.out | apply below_alloc | apply pw_below_drewN | apply below_drew1) | exact HB.out), by repeat (first | (with_reducible first | exact HK.out | apply Kept.alloc | apply Kept.drewN | apply Kept.drew) | exact HK.out)⟩
        ·rw [if_neg c10] at H
         exact absurd H (by simp)
       ·rw [if_neg c9] at H
        exact absurd H (by simp)
      ·replace c8 := Bool.eq_false_iff.mpr c8
       subst c8
       have H1 : (soukref01_trim.l0 k1 l0 ji4) = some r := by rw [if_neg (show ¬ (false = true) by decide)] at H; exact H
       clear H
       have H := H1
       clear H1
       have H' := Aside0.mk H
       clear H
       have p197 : 0 ≤ ((ji4) : Int) := of_decide_eq_true (by first | (with_reducible assumption) | assumption)
       have q197 : (ji4) < (l0.length : Int) := of_decide_eq_true (by first | (with_reducible assumption) | assumption)
       obtain ⟨ad197, e197, hx197_0⟩ := Kd.at_bool (Kd.R_reads' HO_0.out).2.2 (ji4) p197 q197
       (try rw [← Nbq7.out] at hx197_0)
       cases e197
       replace p197 := eq_true p197
       replace q197 := eq_true q197
       go_wp2
       go_roundg k1
       case measure => have := HK1.out; omega
       case rel => exact ⟨(ji4), (by first | rfl | (simp; done) | (simp only [← hji4] <;> (first | rfl | simp)) | (simp [*]; done)), H', ⟨by have := HK1.out; omega⟩, ⟨by (with_reducible repeat (first | apply Kd.R_alloc | apply Kd.R_drewN | apply Kd.R_drew)); exact HO_0.out⟩, ⟨by repeat (first | (with_reducible first | exact HK.out | apply Kept.alloc | apply Kept.drewN | apply Kept.drew) | exact HK.out)⟩, ⟨by repeat (first | (with_reducible first | exact HB.out | apply below_alloc | apply pw_below_drewN | apply below_drew1) | exact HB.out)⟩⟩
     ·rw [if_neg c6] at H
      exact absurd H (by simp)
    ·rw [if_neg c5] at H
     exact absurd H (by simp)
   ·rw [if_neg c3] at H
    have c3b0 : decide (0 < x3_1) = false := decide_eq_false c3
    clear c3
    by_cases c12 : 0 ≤ x3_1
    ·rw [if_pos c12] at H
     have c12b0 := eq_true c12
     have c12b1 : decide (0 ≤ x3_1) = true := decide_eq_true c12
     clear c12
     by_cases c13 : x3_1 ≤ (l0.length : Int)
     ·rw [if_pos c13] at H
      have c13b0 := eq_true c13
      have c13b1 : decide (x3_1 ≤ (l0.length : Int)) = true := decide_eq_true c13
      clear c13
      obtain ⟨y201, hy201⟩ : ∃ y_ : List Bool, y_ = (l0.take (x3_1 : Int).toNat) := ⟨_, rfl⟩
      replace H : (some y201) = some r := by first | (rw [hy201]; with_reducible exact H) | (have H2_ := (Option.bind_some _ _).symm.trans H; rw [hy201]; with_reducible exact H2_) | (have H2_ := (Option.bind_some _ _).symm.trans H; with_reducible exact H2_) | with_reducible exact H | (rw [hy201]; exact H) | exact H
      have Ny201 := Aside0.mk hy201
      clear hy201
      obtain rfl := Option.some.inj H
      have q14 : (x3_1 : Int) ≤ ((l0.length : Int) : Int) := of_decide_eq_true (by first | (with_reducible assumption) | assumption)
      obtain ⟨i014, hi014, _, hsz14, _⟩ := info_parts info4
      have hcut14 := cut_to (P := Try.prog) 87 4 .i64 Try.underlying87 hi014 Ao2 l0.length co2 x3_1 (of_decide_eq_true (by first | (with_reducible assumption) | assumption)) q14 (Kd.R_reads' HO_0.out).2.1
      have hr14 := Kd.R_take (m := (x3_1 : Int).toNat) HO_0.out (by omega)
      have hy14 : y201.length = (x3_1 : Int).toNat := (by rw [Ny201.out, List.length_take]; omega)
      rw [← Ny201.out] at hr14
      rw [← hy14] at hr14 hcut14
      clear hy14 hi014 hsz14 HO_0
      have HO203 := Aside0.mk hr14
      clear hr14
      replace q14 := eq_true q14
      go_wp2
      go_ret
      exact ⟨_, by first | rfl | (simp [errW_none, errW_some] <;> rfl) | (simp [*, errW_none, errW_some] <;> rfl), by (with_reducible repeat (first | apply Kd.R_alloc | apply Kd.R_drewN | apply Kd.R_drew)); exact HO203.out, by repeat (first | (with_reducible first | exact HB.out | apply below_alloc | apply pw_below_drewN | apply below_drew1) | exact HB.out), by repeat (first | (with_reducible first | exact HK.out | apply Kept.alloc | apply Kept.drewN | apply Kept.drew) | exact HK.out)⟩
     ·rw [if_neg c13] at H
      exact absurd H (by simp)
    ·rw [if_neg c12] at H
     exact absurd H (by simp)
end Go.Proofs.Ytncnhhnbjmpomaa.Q
namespace Go.Proofs.Ytncnhhnbjmpomaa.Q
open Go.RowKit Go.Proofs.YtncnhhnbjmpomaaW.PrintWords Go.Proofs.YtncnhhnbjmpomaaW.PrintLast Go.Proofs.YtncnhhnbjmpomaaW.PrintMore
attribute [local go_sem] max2_int min2_int max_two min_two max_three min_three max_four min_four   -- for this text's walks alone
set_option linter.unusedVariables false
set_option linter.unusedSimpArgs false
def soukref01_Wide_at.f (l0 : List Bool) (a1 : Int) : Option (Bool) := if a1 < (l0.length : Int) then (if 0 ≤ a1 then (some (rdOf false l0 a1)) else (none)) else (some false)
set_option maxHeartbeats 8000000 in
set_option maxRecDepth 100000 in
theorem soukref01_Wide_at.calls (A0 : Option Addr) (c0 : Nat) (l0 : List Bool) (a1 : Int) (r : Bool) (w : World) (hr0 : Kd.C Kd.bool w A0 l0.length l0) (hc0 : l0.length ≤ c0) (h : soukref01_Wide_at.f l0 a1 = some r) :
  Calls Try.prog 48 #[.slice A0 l0.length c0, .int .i64 a1] w fun e w' => e = .returned (.bool r) ∧ Drawn0 w w' := by
 have HR0 := Aside0.mk hr0
 have HC0 := Aside0.mk hc0
 clear hr0 hc0
 have H : (if a1 < (l0.length : Int) then (if 0 ≤ a1 then (some (rdOf false l0 a1)) else (none)) else (some false)) = some r := h
 clear h
 by_cases c3 : a1 < (l0.length : Int)
 ·rw [if_pos c3] at H
  have c3b0 : decide (a1 < (l0.length : Int)) = true := decide_eq_true c3
  clear c3
  by_cases c4 : 0 ≤ a1
  ·rw [if_pos c4] at H
   have c4b0 : decide (0 ≤ a1) = true := decide_eq_true c4
   clear c4
   obtain rfl := Option.some.inj H
   have p204 : 0 ≤ (a1 : Int) := of_decide_eq_true (by first | (with_reducible assumption) | assumption)
   have q204 : a1 < (l0.length : Int) := of_decide_eq_true (by first | (with_reducible assumption) | assumption)
   obtain ⟨ad204, e204, hx204_0⟩ := Kd.at_bool HR0.out a1 p204 q204
   cases e204
   replace p204 := eq_true p204
   replace q204 := eq_true q204
   go_enter Try.func48, Try.ntmps48
   go_wp2
   go_ret
   exact ⟨by first | rfl | (simp; done) | (simp [*]; done), by repeat (first | exact Drawn0.refl _ | apply Drawn0.step)⟩
  ·rw [if_neg c4] at H
   exact absurd H (by simp)
 ·rw [if_neg c3] at H
  have c3b0 : decide (a1 < (l0.length : Int)) = false := decide_eq_false c3
  clear c3
  obtain rfl := Option.some.inj H
  go_enter Try.func48, Try.ntmps48
  go_wp2
  go_ret
  exact ⟨by first | rfl | (simp; done) | (simp [*]; done), by repeat (first | exact Drawn0.refl _ | apply Drawn0.step)⟩
end Go.Proofs.Ytncnhhnbjmpomaa.Q
namespace Go.Proofs.Ytncnhhnbjmpomaa.Q
open Go.RowKit Go.Proofs.YtncnhhnbjmpomaaW.PrintWords Go.Proofs.YtncnhhnbjmpomaaW.PrintLast Go.Proofs.YtncnhhnbjmpomaaW.PrintMore
attribute [local go_sem] max2_int min2_int max_two min_two max_three min_three max_four min_four   -- for this text's walks alone
set_option linter.unusedVariables false
set_option linter.unusedSimpArgs false
def soukref01_less.l0 : Nat → List Bool → List Bool → Int → Option (Bool)
 | 0, _, _, _ => none
 | k + 1, x0, x1, x6 => if x6 ≥ 0 then ((soukref01_Wide_at.f x0 x6).bind fun t205 => ((soukref01_Wide_at.f x1 x6).bind fun t206 => (if t205 = true then (if t206 = true then (soukref01_less.l0 k x0 x1 (wrap64 (x6 - 1))) else (some t206)) else (if t206 = true then (some t206) else (soukref01_less.l0 k x0 x1 (wrap64 (x6 - 1))))))) else (some false)
def soukref01_less.f (k : Nat) (l0 : List Bool) (l1 : List Bool) : Option (Bool) := if (l0.length : Int) < (l1.length : Int) then (soukref01_less.l0 k l0 l1 (wrap64 ((l1.length : Int) - 1))) else (soukref01_less.l0 k l0 l1 (wrap64 ((l0.length : Int) - 1)))
set_option maxHeartbeats 8000000 in
set_option maxRecDepth 100000 in
theorem soukref01_less.calls (k : Nat) (A0 : Option Addr) (c0 : Nat) (l0 : List Bool) (A1 : Option Addr) (c1 : Nat) (l1 : List Bool) (r : Bool) (w : World) (hr0 : Kd.C Kd.bool w A0 l0.length l0) (hc0 : l0.length ≤ c0) (hr1 : Kd.C Kd.bool w A1 l1.length l1) (hc1 : l1.length ≤ c1) (h : soukref01_less.f k l0 l1 = some r) :
  Calls Try.prog 47 #[.slice A0 l0.length c0, .slice A1 l1.length c1] w fun e w' => e = .returned (.bool r) ∧ Below w.heap.size w w' := by
 have HR0 := Aside0.mk hr0
 have HC0 := Aside0.mk hc0
 clear hr0 hc0
 have HR1 := Aside0.mk hr1
 have HC1 := Aside0.mk hc1
 clear hr1 hc1
 have HB := Aside0.mk (Below.refl w.heap.size w)
 have H : (if (l0.length : Int) < (l1.length : Int) then (soukref01_less.l0 k l0 l1 (wrap64 ((l1.length : Int) - 1))) else (soukref01_less.l0 k l0 l1 (wrap64 ((l0.length : Int) - 1)))) = some r := h
 clear h
 by_cases c3 : (l0.length : Int) < (l1.length : Int)
 ·rw [if_pos c3] at H
  have c3i := eq_true c3
  have c3b0 : decide ((l0.length : Int) < (l1.length : Int)) = true := decide_eq_true c3
  have c3b1 : decide (l0.length < l1.length) = true := decide_eq_true (Int.ofNat_lt.mp c3)
  clear c3
  have H' := Aside0.mk H
  clear H
  go_enter Try.func47, Try.ntmps47
  go_wp2
  go_loopg [6] k (fun kq v6 w' => ∃ (x6_1 : Int), v6 = .int .i64 x6_1 ∧ Aside0 (soukref01_less.l0 kq l0 l1 x6_1 = some r) ∧ Aside0 (kq ≤ k) ∧ Aside0 (Below w.heap.size w w'))
  case atStart => exact ⟨(wrap64 ((l1.length : Int) - 1)), (by first | rfl | (simp; done) | (simp [*]; done)), H', ⟨Nat.le_refl _⟩, ⟨by repeat (first | (with_reducible first | exact HB.out | apply below_alloc | apply pw_below_drewN | apply below_drew1) | exact HB.out)⟩⟩
  case round =>
   clear H'
   try clear c1
   try clear p2
   try clear c3
   try clear c3b0
   try clear c3b1
   obtain ⟨x6_1, rfl, HA, HK1, HB⟩ := hrel
   cases gk with
   | zero => exact absurd HA.out (by simp [soukref01_less.l0])
   | succ k1 =>
    have H := HA.out
    clear HA
    simp only [soukref01_less.l0] at H
    by_cases c4 : x6_1 ≥ 0
    ·rw [if_pos c4] at H
     have c4b0 : decide (0 ≤ x6_1) = true := decide_eq_true c4
     clear c4
     replace H := Option.bind_eq_some_iff.mp H
     obtain ⟨t205, A50, H⟩ := H
     replace H : ((soukref01_Wide_at.f l1 x6_1).bind fun t206 => (if t205 = true then (if t206 = true then (soukref01_less.l0 k1 l0 l1 (wrap64 (x6_1 - 1))) else (some t206)) else (if t206 = true then (some t206) else (soukref01_less.l0 k1 l0 l1 (wrap64 (x6_1 - 1)))))) = some r := H
     have A5 := Aside0.mk A50
     clear A50
     replace H := Option.bind_eq_some_iff.mp H
     obtain ⟨t206, A60, H⟩ := H
     replace H : (if t205 = true then (if t206 = true then (soukref01_less.l0 k1 l0 l1 (wrap64 (x6_1 - 1))) else (some t206)) else (if t206 = true then (some t206) else (soukref01_less.l0 k1 l0 l1 (wrap64 (x6_1 - 1))))) = some r := H
     have A6 := Aside0.mk A60
     clear A60
     by_cases c7 : t205 = true
     ·subst c7
      have H1 : (if t206 = true then (soukref01_less.l0 k1 l0 l1 (wrap64 (x6_1 - 1))) else (some t206)) = some r := by rw [if_pos rfl] at H; exact H
      clear H
      have H := H1
      clear H1
      by_cases c8 : t206 = true
      ·subst c8
       have H1 : (soukref01_less.l0 k1 l0 l1 (wrap64 (x6_1 - 1))) = some r := by rw [if_pos rfl] at H; exact H
       clear H
       have H := H1
       clear H1
       have H' := Aside0.mk H
       clear H
       go_wp2_with (first | ((with_reducible refine gate_callee (f := 48) rfl ?_); refine goesL_ (some 22) rfl rfl Try.func48 (by kernel_rfl) rfl #[.slice A0 l0.length c0, .int .i64 x6_1] rfl (by (try simp only [List.map_toArray, List.map_cons, List.map_nil]); first | done | rfl | (simp only [List.length_drop, List.length_take]; rfl)) ?_; (with_reducible refine (soukref01_Wide_at.calls _ _ l0 x6_1 true _ ?side1 ?side2 A5.out).mono ?_); (case side1 => repeat (first | exact (Kd.C_below HR0.out HB.out) | (with_reducible refine Kd.C_alloc ?_ _) | (with_reducible refine Kd.C_drewN ?_ _) | (with_reducible refine Kd.C_drew ?_))); (case side2 => exact HC0.out); rintro e w' ⟨rfl, ⟨nd, rfl⟩⟩; refine ⟨_, rfl, ?_⟩) | ((with_reducible refine gate_callee (f := 48) rfl ?_); refine goesL_ (some 25) rfl rfl Try.func48 (by kernel_rfl) rfl #[.slice A1 l1.length c1, .int .i64 x6_1] rfl (by (try simp only [List.map_toArray, List.map_cons, List.map_nil]); first | done | rfl | (simp only [List.length_drop, List.length_take]; rfl)) ?_; (with_reducible refine (soukref01_Wide_at.calls _ _ l1 x6_1 true _ ?side1 ?side2 A6.out).mono ?_); (case side1 => repeat (first | exact (Kd.C_below HR1.out (by repeat (first | (with_reducible first | exact HB.out | apply below_alloc | apply pw_below_drewN | apply below_drew1) | exact HB.out))) | (with_reducible refine Kd.C_alloc ?_ _) | (with_reducible refine Kd.C_drewN ?_ _) | (with_reducible refine Kd.C_drew ?_))); (case side2 => exact HC1.out); rintro e w' ⟨rfl, ⟨nd, rfl⟩⟩; refine ⟨_, rfl, ?_⟩))
       go_roundg k1
       case measure => have := HK1.out; omega
       case rel => exact ⟨(wrap64 (x6_1 - 1)), (by first | rfl | (simp; done) | (simp [*]; done)), H', ⟨by have := HK1.out; omega⟩, ⟨by repeat (first | (with_reducible first | exact HB.out | apply below_alloc | apply pw_below_drewN | apply below_drew1) | exact HB.out)⟩⟩
      ·replace c8 := Bool.eq_false_iff.mpr c8
       subst c8
       have H1 : (some false) = some r := by rw [if_neg (show ¬ (false = true) by decide)] at H; exact H
       clear H
       have H := H1
       clear H1
       obtain rfl := Option.some.inj H
       go_wp2_with (first | ((with_reducible refine gate_callee (f := 48) rfl ?_); refine goesL_ (some 22) rfl rfl Try.func48 (by kernel_rfl) rfl #[.slice A0 l0.length c0, .int .i64 x6_1] rfl (by (try simp only [List.map_toArray, List.map_cons, List.map_nil]); first | done | rfl | (simp only [List.length_drop, List.length_take]; rfl)) ?_; (with_reducible refine (soukref01_Wide_at.calls _ _ l0 x6_1 true _ ?side1 ?side2 A5.out).mono ?_); (case side1 => repeat (first | exact (Kd.C_below HR0.out HB.out) | (with_reducible refine Kd.C_alloc ?_ _) | (with_reducible refine Kd.C_drewN ?_ _) | (with_reducible refine Kd.C_drew ?_))); (case side2 => exact HC0.out); rintro e w' ⟨rfl, ⟨nd, rfl⟩⟩; refine ⟨_, rfl, ?_⟩) | ((with_reducible refine gate_callee (f := 48) rfl ?_); refine goesL_ (some 25) rfl rfl Try.func48 (by kernel_rfl) rfl #[.slice A1 l1.length c1, .int .i64 x6_1] rfl (by (try simp only [List.map_toArray, List.map_cons, List.map_nil]); first | done | rfl | (simp only [List.length_drop, List.length_take]; rfl)) ?_; (with_reducible refine (soukref01_Wide_at.calls _ _ l1 x6_1 false _ ?side1 ?side2 A6.out).mono ?_); (case side1 => repeat (first | exact (Kd.C_below HR1.out (by repeat (first | (with_reducible first | exact HB.out | apply below_alloc | apply pw_below_drewN | apply below_drew1) | exact HB.out))) | (with_reducible refine Kd.C_alloc ?_ _) | (with_reducible refine Kd.C_drewN ?_ _) | (with_reducible refine Kd.C_drew ?_))); (case side2 => exact HC1.out); rintro e w' ⟨rfl, ⟨nd, rfl⟩⟩; refine ⟨_, rfl, ?_⟩))
       go_ret
       exact ⟨by first | rfl | (simp [errW_none, errW_some] <;> rfl) | (simp [*, errW_none, errW_some] <;> rfl), by repeat (first | (with_reducible first | exact HB.out | apply below_alloc | apply pw_below_drewN | apply below_drew1) | exact HB.out)⟩
     ·replace c7 := Bool.eq_false_iff.mpr c7
      subst c7
      have H1 : (if t206 = true then (some t206) else (soukref01_less.l0 k1 l0 l1 (wrap64 (x6_1 - 1)))) = some r := by rw [if_neg (show ¬ (false = true) by decide)] at H; exact H
      clear H
      have H := H1
      clear H1
      by_cases c9 : t206 = true
      ·subst c9
       have H1 : (some true) = some r := by rw [if_pos rfl] at H; exact H
       clear H
       have H := H1
       clear H1
       obtain rfl := Option.some.inj H
       go_wp2_with (first | ((with_reducible refine gate_callee (f := 48) rfl ?_); refine goesL_ (some 22) rfl rfl Try.func48 (by kernel_rfl) rfl #[.slice A0 l0.length c0, .int .i64 x6_1] rfl (by (try simp only [List.map_toArray, List.map_cons, List.map_nil]); first | done | rfl | (simp only [List.length_drop, List.length_take]; rfl)) ?_; (with_reducible refine (soukref01_Wide_at.calls _ _ l0 x6_1 false _ ?side1 ?side2 A5.out).mono ?_); (case side1 => repeat (first | exact (Kd.C_below HR0.out HB.out) | (with_reducible refine Kd.C_alloc ?_ _) | (with_reducible refine Kd.C_drewN ?_ _) | (with_reducible refine Kd.C_drew ?_))); (case side2 => exact HC0.out); rintro e w' ⟨rfl, ⟨nd, rfl⟩⟩; refine ⟨_, rfl, ?_⟩) | ((with_reducible refine gate_callee (f := 48) rfl ?_); refine goesL_ (some 25) rfl rfl Try.func48 (by kernel_rfl) rfl #[.slice A1 l1.length c1, .int .i64 x6_1] rfl (by (try simp only [List.map_toArray, List.map_cons, List.map_nil]); first | done | rfl | (simp only [List.length_drop, List.length_take]; rfl)) ?_; (with_reducible refine (soukref01_Wide_at.calls _ _ l1 x6_1 true _ ?side1 ?side2 A6.out).mono ?_); (case side1 => repeat (first | exact (Kd.C_below HR1.out (by repeat (first | (with_reducible first | exact HB.out | apply below_alloc | apply pw_below_drewN | apply below_drew1) | exact HB.out))) | (with_reducible refine Kd.C_alloc ?_ _) | (with_reducible refine Kd.C_drewN ?_ _) | (with_reducible refine Kd.C_drew ?_))); (case side2 => exact HC1.out); rintro e w' ⟨rfl, ⟨nd, rfl⟩⟩; refine ⟨_, rfl, ?_⟩))
       go_ret
       exact ⟨by first | rfl | (simp [errW_none, errW_some] <;> rfl) | (simp [*, errW_none, errW_some] <;> rfl), by repeat (first | (with_reducible first | exact HB.out | apply below_alloc | apply pw_below_drewN | apply below_drew1) | exact HB.out)⟩
      ·replace c9 := Bool.eq_false_iff.mpr c9
       subst c9
       have H1 : (soukref01_less.l0 k1 l0 l1 (wrap64 (x6_1 - 1))) = some r := by rw [if_neg (show ¬ (false = true) by decide)] at H; exact H
       clear H
       have H := H1
       clear H1
       have H' := Aside0.mk H
       clear H
       go_wp2_with (first | ((with_reducible refine gate_callee (f := 48) rfl ?_); refine goesL_ (some 22) rfl rfl Try.func48 (by kernel_rfl) rfl #[.slice A0 l0.length c0, .int .i64 x6_1] rfl (by (try simp only [List.map_toArray, List.map_cons, List.map_nil]); first | done | rfl | (simp only [List.length_drop, List.length_take]; rfl)) ?_; (with_reducible refine (soukref01_Wide_at.calls _ _ l0 x6_1 false _ ?side1 ?side2 A5.out).mono ?_); (case side1 => repeat (first | exact (Kd.C_below HR0.out HB.out) | (with_reducible refine Kd.C_alloc ?_ _) | (with_reducible refine Kd.C_drewN ?_ _) | (with_reducible refine Kd.C_drew ?_))); (case side2 => exact HC0.out); rintro e w' ⟨rfl, ⟨nd, rfl⟩⟩; refine ⟨_, rfl, ?_⟩) | ((with_reducible refine gate_callee (f := 48) rfl ?_); refine goesL_ (some 25) rfl rfl Try.func48 (by kernel_rfl) rfl #[.slice A1 l1.length c1, .int .i64 x6_1] rfl (by (try simp only [List.map_toArray, List.map_cons, List.map_nil]); first | done | rfl | (simp only [List.length_drop, List.length_take]; rfl)) ?_; (with_reducible refine (soukref01_Wide_at.calls _ _ l1 x6_1 false _ ?side1 ?side2 A6.out).mono ?_); (case side1 => repeat (first | exact (Kd.C_below HR1.out (by repeat (first | (with_reducible first | exact HB.out | apply below_alloc | apply pw_below_drewN | apply below_drew1) | exact HB.out))) | (with_reducible refine Kd.C_alloc ?_ _) | (with_reducible refine Kd.C_drewN ?_ _) | (with_reducible refine Kd.C_drew ?_))); (case side2 => exact HC1.out); rintro e w' ⟨rfl, ⟨nd, rfl⟩⟩; refine ⟨_, rfl, ?_⟩))
       go_roundg k1
       case measure => have := HK1.out; omega
       case rel => exact ⟨(wrap64 (x6_1 - 1)), (by first | rfl | (simp; done) | (simp [*]; done)), H', ⟨by have := HK1.out; omega⟩, ⟨by repeat (first | (with_reducible first | exact HB.out | apply below_alloc | apply pw_below_drewN | apply below_drew1) | exact HB.out)⟩⟩
    ·rw [if_neg c4] at H
     have c4b0 : decide (0 ≤ x6_1) = false := decide_eq_false c4
     clear c4
     obtain rfl := Option.some.inj H
     go_wp2
     go_ret
     exact ⟨by first | rfl | (simp [errW_none, errW_some] <;> rfl) | (simp [*, errW_none, errW_some] <;> rfl), by repeat (first | (with_reducible first | exact HB.out | apply below_alloc | apply pw_below_drewN | apply below_drew1) | exact HB.out)⟩
 ·rw [if_neg c3] at H
  have c3i := eq_false c3
  have c3b0 : decide ((l0.length : Int) < (l1.length : Int)) = false := decide_eq_false c3
  have c3b1 : decide (l0.length < l1.length) = false := decide_eq_false (fun h => c3 (Int.ofNat_lt.mpr h))
  clear c3
  have H' := Aside0.mk H
  clear H
  go_enter Try.func47, Try.ntmps47
  go_wp2
  go_loopg [6] k (fun kq v6 w' => ∃ (x6_1 : Int), v6 = .int .i64 x6_1 ∧ Aside0 (soukref01_less.l0 kq l0 l1 x6_1 = some r) ∧ Aside0 (kq ≤ k) ∧ Aside0 (Below w.heap.size w w'))
  case atStart => exact ⟨(wrap64 ((l0.length : Int) - 1)), (by first | rfl | (simp; done) | (simp [*]; done)), H', ⟨Nat.le_refl _⟩, ⟨by repeat (first | (with_reducible first | exact HB.out | apply below_alloc | apply pw_below_drewN | apply below_drew1) | exact HB.out)⟩⟩
  case round =>
   clear H'
   try clear c1
   try clear p2
   try clear c3
   try clear c3b0
   try clear c3b1
   try clear c4
   try clear c4b0
   try clear p6
   try clear c7
   try clear c8
   try clear c9
   try clear p2
   obtain ⟨x6_1, rfl, HA, HK1, HB⟩ := hrel
   cases gk with
   | zero => exact absurd HA.out (by simp [soukref01_less.l0])
   | succ k1 =>
    have H := HA.out
    clear HA
    simp only [soukref01_less.l0] at H
    by_cases c10 : x6_1 ≥ 0
    ·rw [if_pos c10] at H
     have c10b0 : decide (0 ≤ x6_1) = true := decide_eq_true c10
     clear c10
     replace H := Option.bind_eq_some_iff.mp H
     obtain ⟨t205, A110, H⟩ := H
     replace H : ((soukref01_Wide_at.f l1 x6_1).bind fun t206 => (if t205 = true then (if t206 = true then (soukref01_less.l0 k1 l0 l1 (wrap64 (x6_1 - 1))) else (some t206)) else (if t206 = true then (some t206) else (soukref01_less.l0 k1 l0 l1 (wrap64 (x6_1 - 1)))))) = some r := H
     have A11 := Aside0.mk A110
     clear A110
     replace H := Option.bind_eq_some_iff.mp H
     obtain ⟨t206, A120, H⟩ := H
     replace H : (if t205 = true then (if t206 = true then (soukref01_less.l0 k1 l0 l1 (wrap64 (x6_1 - 1))) else (some t206)) else (if t206 = true then (some t206) else (soukref01_less.l0 k1 l0 l1 (wrap64 (x6_1 - 1))))) = some r := H
     have A12 := Aside0.mk A120
     clear A120
     by_cases c13 : t205 = true
     ·subst c13
      have H1 : (if t206 = true then (soukref01_less.l0 k1 l0 l1 (wrap64 (x6_1 - 1))) else (some t206)) = some r := by rw [if_pos rfl] at H; exact H
      clear H
      have H := H1
      clear H1
      by_cases c14 : t206 = true
      ·subst c14
       have H1 : (soukref01_less.l0 k1 l0 l1 (wrap64 (x6_1 - 1))) = some r := by rw [if_pos rfl] at H; exact H
       clear H
       have H := H1
       clear H1
       have H' := Aside0.mk H
       clear H
       go_wp2_with (first | ((with_reducible refine gate_callee (f := 48) rfl ?_); refine goesL_ (some 22) rfl rfl Try.func48 (by kernel_rfl) rfl #[.slice A0 l0.length c0, .int .i64 x6_1] rfl (by (try simp only [List.map_toArray, List.map_cons, List.map_nil]); first | done | rfl | (simp only [List.length_drop, List.length_take]; rfl)) ?_; (with_reducible refine (soukref01_Wide_at.calls _ _ l0 x6_1 true _ ?side1 ?side2 A11.out).mono ?_); (case side1 => repeat (first | exact (Kd.C_below HR0.out HB.out) | (with_reducible refine Kd.C_alloc ?_ _) | (with_reducible refine Kd.C_drewN ?_ _) | (with_reducible refine Kd.C_drew ?_))); (case side2 => exact HC0.out); rintro e w' ⟨rfl, ⟨nd, rfl⟩⟩; refine ⟨_, rfl, ?_⟩) | ((with_reducible refine gate_callee (f := 48) rfl ?_); refine goesL_ (some 25) rfl rfl Try.func48 (by kernel_rfl) rfl #[.slice A1 l1.length c1, .int .i64 x6_1] rfl (by (try simp only [List.map_toArray, List.map_cons, List.map_nil]); first | done | rfl | (simp only [List.length_drop, List.length_take]; rfl)) ?_; (with_reducible refine (soukref01_Wide_at.calls _ _ l1 x6_1 true _ ?side1 ?side2 A12.out).mono ?_); (case side1 => repeat (first | exact (Kd.C_below HR1.out (by repeat (first | (with_reducible first | exact HB.out | apply below_alloc | apply pw_below_drewN | apply below_drew1) | exact HB.out))) | (with_reducible refine Kd.C_alloc ?_ _) | (with_reducible refine Kd.C_drewN ?_ _) | (with_reducible refine Kd.C_drew ?_))); (case side2 => exact HC1.out); rintro e w' ⟨rfl, ⟨nd, rfl⟩⟩; refine ⟨_, rfl, ?_⟩))
       go_roundg k1
       case measure => have := HK1.out; omega
       case rel => exact ⟨(wrap64 (x6_1 - 1)), (by first | rfl | (simp; done) | (simp [*]; done)), H', ⟨by have := HK1.out; omega⟩, ⟨by repeat (first | (with_reducible first | exact HB.out | apply below_alloc | apply pw_below_drewN | apply below_drew1) | exact HB.out)⟩⟩
      ·replace c14 := Bool.eq_false_iff.mpr c14
       subst c14
       have H1 : (some false) = some r := by rw [if_neg (show ¬ (false = true) by decide)] at H; exact H
       clear H
       have H := H1
       clear H1
       obtain rfl := Option.some.inj H
       go_wp2_with (first | ((with_reducible refine gate_callee (f := 48) rfl ?_); refine goesL_ (some 22) rfl rfl Try.func48 (by kernel_rfl) rfl #[.slice A0 l0.length c0, .int .i64 x6_1] rfl (by (try simp only [List.map_toArray, List.map_cons, List.map_nil]); first | done | rfl | (simp only [List.length_drop, List.length_take]; rfl)) ?_; (with_reducible refine (soukref01_Wide_at.calls _ _ l0 x6_1 true _ ?side1 ?side2 A11.out).mono ?_); (case side1 => repeat (first | exact (Kd.C_below HR0.out HB.out) | (with_reducible refine Kd.C_alloc ?_ _) | (with_reducible refine Kd.C_drewN ?_ _) | (with_reducible refine Kd.C_drew ?_))); (case side2 => exact HC0.out); rintro e w' ⟨rfl, ⟨nd, rfl⟩⟩; refine ⟨_, rfl, ?_⟩) | ((with_reducible refine gate_callee (f := 48) rfl ?_); refine goesL_ (some 25) rfl rfl Try.func48 (by kernel_rfl) rfl #[.slice A1 l1.length c1, .int .i64 x6_1] rfl (by (try simp only [List.map_toArray, List.map_cons, List.map_nil]); first | done | rfl | (simp only [List.length_drop, List.length_take]; rfl)) ?_; (with_reducible refine (soukref01_Wide_at.calls _ _ l1 x6_1 false _ ?side1 ?side2 A12.out).mono ?_); (case side1 => repeat (first | exact (Kd.C_below HR1.out (by repeat (first | (with_reducible first | exact HB.out | apply below_alloc | apply pw_below_drewN | apply below_drew1) | exact HB.out))) | (with_reducible refine Kd.C_alloc ?_ _) | (with_reducible refine Kd.C_drewN ?_ _) | (with_reducible refine Kd.C_drew ?_))); (case side2 => exact HC1.out); rintro e w' ⟨rfl, ⟨nd, rfl⟩⟩; refine ⟨_, rfl, ?_⟩))
       go_ret
       exact ⟨by first | rfl | (simp [errW_none, errW_some] <;> rfl) | (simp [*, errW_none, errW_some] <;> rfl), by repeat (first | (with_reducible first | exact HB.out | apply below_alloc | apply pw_below_drewN | apply below_drew1) | exact HB.out)⟩
     ·replace c13 := Bool.eq_false_iff.mpr c13
      subst c13
      have H1 : (if t206 = true then (some t206) else (soukref01_less.l0 k1 l0 l1 (wrap64 (x6_1 - 1)))) = some r := by rw [if_neg (show ¬ (false = true) by decide)] at H; exact H
      clear H
      have H := H1
      clear H1
      by_cases c15 : t206 = true
      ·subst c15
       have H1 : (some true) = some r := by rw [if_pos rfl] at H; exact H
       clear H
       have H := H1
       clear H1
       obtain rfl := Option.some.inj H
       go_wp2_with (first | ((with_reducible refine gate_callee (f := 48) rfl ?_); refine goesL_ (some 22) rfl rfl Try.func48 (by kernel_rfl) rfl #[.slice A0 l0.length c0, .int .i64 x6_1] rfl (by (try simp only [List.map_toArray, List.map_cons, List.map_nil]); first | done | rfl | (simp only [List.length_drop, List.length_take]; rfl)) ?_; (with_reducible refine (soukref01_Wide_at.calls _ _ l0 x6_1 false _ ?side1 ?side2 A11.out).mono ?_); (case side1 => repeat (first | exact (Kd.C_below HR0.out HB.out) | (with_reducible refine Kd.C_alloc ?_ _) | (with_reducible refine Kd.C_drewN ?_ _) | (with_reducible refine Kd.C_drew ?_))); (case side2 => exact HC0.out); rintro e w' ⟨rfl, ⟨nd, rfl⟩⟩; refine ⟨_, rfl, ?_⟩) | ((with_reducible refine gate_callee (f := 48) rfl ?_); refine goesL_ (some 25) rfl rfl Try.func48 (by kernel_rfl) rfl #[.slice A1 l1.length c1, .int .i64 x6_1] rfl (by (try simp only [List.map_toArray, List.map_cons, List.map_nil]); first | done | rfl | (simp only [List.length_drop, List.length_take]; rfl)) ?_; (with_reducible refine (soukref01_Wide_at.calls _ _ l1 x6_1 true _ ?side1 ?side2 A12.out).mono ?_); (case side1 => repeat (first | exact (Kd.C_below HR1.out (by repeat (first | (with_reducible first | exact HB.out | apply below_alloc | apply pw_below_drewN | apply below_drew1) | exact HB.out))) | (with_reducible refine Kd.C_alloc ?_ _) | (with_reducible refine Kd.C_drewN ?_ _) | (with_reducible refine Kd.C_drew ?_))); (case side2 => exact HC1.out); rintro e w' ⟨rfl, ⟨nd, rfl⟩⟩; refine ⟨_, rfl, ?_⟩))
       go_ret
       exact ⟨by first | rfl | (simp [errW_none, errW_some] <;> rfl) | (simp [*, errW_none, errW_some] <;> rfl), by repeat (first | (with_reducible first | exact HB.out | apply below_alloc | apply pw_below_drewN | apply below_drew1) | exact HB.out)⟩
      ·replace c15 := Bool.eq_false_iff.mpr c15
       subst c15
       have H1 : (soukref01_less.l0 k1 l0 l1 (wrap64 (x6_1 - 1))) = some r := by rw [if_neg (show ¬ (false = true) by decide)] at H; exact H
       clear H
       have H := H1
       clear H1
       have H' := Aside0.mk H
       clear H
       go_wp2_with (first | ((with_reducible refine gate_callee (f := 48) rfl ?_); refine goesL_ (some 22) rfl rfl Try.func48 (by kernel_rfl) rfl #[.slice A0 l0.length c0, .int .i64 x6_1] rfl (by (try simp only [List.map_toArray, List.map_cons, List.map_nil]); first | done | rfl | (simp only [List.length_drop, List.length_take]; rfl)) ?_; (with_reducible refine (soukref01_Wide_at.calls _ _ l0 x6_1 false _ ?side1 ?side2 A11.out).mono ?_); (case side1 => repeat (first | exact (Kd.C_below HR0.out HB.out) | (with_reducible refine Kd.C_alloc ?_ _) | (with_reducible refine Kd.C_drewN ?_ _) | (with_reducible refine Kd.C_drew ?_))); (case side2 => exact HC0.out); rintro e w' ⟨rfl, ⟨nd, rfl⟩⟩; refine ⟨_, rfl, ?_⟩) | ((with_reducible refine gate_callee (f := 48) rfl ?_); refine goesL_ (some 25) rfl rfl Try.func48 (by kernel_rfl) rfl #[.slice A1 l1.length c1, .int .i64 x6_1] rfl (by (try simp only [List.map_toArray, List.map_cons, List.map_nil]); first | done | rfl | (simp only [List.length_drop, List.length_take]; rfl)) ?_; (with_reducible refine (soukref01_Wide_at.calls _ _ l1 x6_1 false _ ?side1 ?side2 A12.out).mono ?_); (case side1 => repeat (first | exact (Kd.C_below HR1.out (by repeat (first | (with_reducible first | exact HB.out | apply below_alloc | apply pw_below_drewN | apply below_drew1) | exact HB.out))) | (with_reducible refine Kd.C_alloc ?_ _) | (with_reducible refine Kd.C_drewN ?_ _) | (with_reducible refine Kd.C_drew ?_))); (case side2 => exact HC1.out); rintro e w' ⟨rfl, ⟨nd, rfl⟩⟩; refine ⟨_, rfl, ?_⟩))
       go_roundg k1
       case measure => have := HK1.out; omega
       case rel => exact ⟨(wrap64 (x6_1 - 1)), (by first | rfl | (simp; done) | (simp [*]; done)), H', ⟨by have := HK1.out; omega⟩, ⟨by repeat (first | (with_reducible first | exact HB.out | apply below_alloc | apply pw_below_drewN | apply below_drew1) | exact HB.out)⟩⟩
    ·rw [if_neg c10] at H
     have c10b0 : decide (0 ≤ x6_1) = false := decide_eq_false c10
     clear c10
     obtain rfl := Option.some.inj H
     go_wp2
     go_ret
     exact ⟨by first | rfl | (simp [errW_none, errW_some] <;> rfl) | (simp [*, errW_none, errW_some] <;> rfl), by repeat (first | (with_reducible first | exact HB.out | apply below_alloc | apply pw_below_drewN | apply below_drew1) | exact HB.out)⟩
end Go.Proofs.Ytncnhhnbjmpomaa.Q
