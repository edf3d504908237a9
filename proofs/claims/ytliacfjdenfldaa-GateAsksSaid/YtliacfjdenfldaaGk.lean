import Derived.Test.YtliacfjdenfldaaGj
/- What the gateway keeps: no key has two records; what is told of a key with a record is what was decided. -/
namespace Go.Proofs.Ytliacfjdenfldaa
open Go.RowKit Go.Proofs.Kq
set_option linter.unusedSimpArgs false
set_option linter.unusedVariables false

theorem fidx_none {key : ByteArray} : ∀ {xs : List A98} {i : Nat}, fidx key i xs = -1 → ∀ k (h : k < xs.length), ¬ xs[k].f0.toList = key.toList
  | [], _, _, k, h => absurd h (by simp)
  | x :: xs, i, h, k, hk => by
    simp only [fidx] at h
    by_cases hx : x.f0.toList = key.toList
    · rw [if_pos hx] at h; omega
    · rw [if_neg hx] at h
      cases k with
      | zero => simpa using hx
      | succ k => simpa using fidx_none h k (by simpa using hk)
theorem fidx_of_none {key : ByteArray} : ∀ {xs : List A98} {i : Nat}, (∀ k (h : k < xs.length), ¬ xs[k].f0.toList = key.toList) → fidx key i xs = -1
  | [], _, _ => rfl
  | x :: xs, i, h => by
    have hx : ¬ x.f0.toList = key.toList := h 0 (by simp)
    simp only [fidx, if_neg hx]
    exact fidx_of_none (fun k hk => by have := h (k + 1) (by simpa using hk); simpa using this)
/-- no key twice -/
def ND (xs : List A98) : Prop := ∀ (j k : Nat) (hk : k < xs.length) (hj : j < k), ¬ (xs[j]'(by omega)).f0.toList = xs[k].f0.toList
theorem ND.nil : ND [] := fun j k hk => absurd hk (by simp)
theorem ND.take {xs : List A98} (h : ND xs) (k : Nat) (hk : k < xs.length) : fidx xs[k].f0 0 (xs.take k) = -1 :=
  fidx_of_none (fun j hj => by
    have hj' : j < k := by simp at hj; omega
    simpa using h j k hk hj')
theorem ND.snoc {xs : List A98} {x : A98} (h : ND xs) (h0 : fidx x.f0 0 xs = -1) : ND (xs ++ [x]) := by
  intro j k hk hj
  by_cases hkl : k < xs.length
  · have := h j k hkl hj
    simpa [List.getElem_append, hkl, show j < xs.length by omega] using this
  · have hk2 : k = xs.length := by simp at hk; omega
    subst hk2
    have := fidx_none h0 j hj
    simpa [List.getElem_append, hj] using this

theorem sRecs_cases (key kd pa cu : ByteArray) (am m : Int) (recs : List A98) :
    (sRecs key kd pa cu am m recs = recs ∧ (fidx key 0 recs = -1 → ¬ kd.toList = [112, 97, 121])) ∨ (fidx key 0 recs = -1 ∧ kd.toList = [112, 97, 121] ∧ sRecs key kd pa cu am m recs = recs ++ [⟨key, pa, cu, am, !dec m⟩]) := by
  rcases fidx_cases key recs 0 with h | ⟨k, hk, h, _⟩
  · by_cases hp : kd.toList = [112, 97, 121]
    · exact Or.inr ⟨h, hp, by simp [sRecs, h, hp]⟩
    · exact Or.inl ⟨by simp [sRecs, hp], fun _ => hp⟩
  · have hn : ¬ ((0 + k : Nat) : Int) < 0 := by omega
    exact Or.inl ⟨by simp only [sRecs, h, hn, false_and, if_false], fun e => by omega⟩
theorem tRecs_cases (key kd pa cu : ByteArray) (am m : Int) (recs : List A98) :
    tRecs key kd pa cu am m recs = recs ∨ (fidx key 0 recs = -1 ∧ tRecs key kd pa cu am m recs = recs ++ [⟨key, pa, cu, am, !dec m⟩]) := by
  by_cases h : gOk kd m = true
  · simp only [tRecs, h, if_true]
    rcases sRecs_cases key kd pa cu am m recs with h | ⟨h1, h2, h3⟩
    · exact Or.inl h.1
    · exact Or.inr ⟨h1, h3⟩
  · exact Or.inl (by simp [tRecs, h])
theorem ND.step {key kd pa cu : ByteArray} {am m : Int} {recs : List A98} (h : ND recs) : ND (tRecs key kd pa cu am m recs) := by
  rcases tRecs_cases key kd pa cu am m recs with e | ⟨h0, e⟩
  · rw [e]; exact h
  · rw [e]; exact h.snoc h0
theorem kAccepted_l : kAccepted.toList = [97, 99, 99, 101, 112, 116, 101, 100] := by kernel_rfl
theorem kDeclined_l : kDeclined.toList = [100, 101, 99, 108, 105, 110, 101, 100] := by kernel_rfl
theorem kUnknown_l : kUnknown.toList = [117, 110, 107, 110, 111, 119, 110] := by kernel_rfl
/-- what is told of a key with a record is what was decided -/
theorem told_ok {key kd pa cu : ByteArray} {am m : Int} {recs : List A98} (hN : ND recs) (k : Nat) (hk : k < (sRecs key kd pa cu am m recs).length) (hkey : (sRecs key kd pa cu am m recs)[k].f0.toList = key.toList) :
    ((sKind key kd m recs).toList == [97, 99, 99, 101, 112, 116, 101, 100]) = (sRecs key kd pa cu am m recs)[k].f4 := by
  rcases sRecs_cases key kd pa cu am m recs with ⟨e, hp⟩ | ⟨h0, hp, e⟩
  · simp only [e] at hk hkey ⊢
    rcases fidx_cases key recs 0 with h | ⟨j, hj, h, hjk⟩
    · exact absurd hkey (fidx_none h k hk)
    · have hjk' : j = k := by
        rcases Nat.lt_trichotomy j k with hlt | h | hlt
        · exact absurd (hjk.trans hkey.symm) (hN j k hk hlt)
        · exact h
        · exact absurd (hkey.trans hjk.symm) (hN k j hj hlt)
      subst hjk'
      have hn : ¬ ((0 + j : Nat) : Int) < 0 := by omega
      have e2 : sMoved key m recs = recs[j].f4 := by
        simp only [sMoved, h, hn, if_false]
        simp [List.getElem?_eq_getElem hj]
      simp only [sKind, h, hn, false_and, if_false, e2]
      cases recs[j].f4 <;> simp [kAccepted_l, kDeclined_l]
  · simp only [e] at hk hkey ⊢
    have hkl : k = recs.length := by
      by_cases hkl : k < recs.length
      · have := fidx_none h0 k hkl
        simp [List.getElem_append, hkl] at hkey
        exact absurd hkey this
      · simp at hk; omega
    subst hkl
    have e4 : ((recs ++ [(⟨key, pa, cu, am, !dec m⟩ : A98)])[recs.length]'hk).f4 = !dec m := by simp
    rw [e4]
    simp only [sKind, h0, hp, not_true, and_false, if_false, sMoved]
    cases dec m <;> simp [kAccepted_l, kDeclined_l]
theorem told_mem {key kd : ByteArray} {att m : Int} {recs : List A98} {x : A102} (h : x ∈ tTold key kd att m recs) : gOk kd m = true ∧ x = sX key kd att m recs := by
  unfold tTold at h
  by_cases hg : gOk kd m = true
  · rw [if_pos hg] at h
    refine ⟨hg, ?_⟩
    split at h
    · simpa using h
    · split at h
      · simpa using h
      · simp at h
  · rw [if_neg hg] at h; simp at h
theorem tLate_len (key kd : ByteArray) (att m : Int) (recs : List A98) (late : List A102) : (tLate key kd att m recs late).length ≤ late.length + 1 := by
  unfold tLate; split <;> simp
theorem tRecs_len (key kd pa cu : ByteArray) (am m : Int) (recs : List A98) : (tRecs key kd pa cu am m recs).length ≤ recs.length + 1 := by
  rcases tRecs_cases key kd pa cu am m recs with e | ⟨_, e⟩ <;> simp [e]
theorem tRecs_pre (key kd pa cu : ByteArray) (am m : Int) (recs : List A98) : recs.length ≤ (tRecs key kd pa cu am m recs).length ∧ (tRecs key kd pa cu am m recs).take recs.length = recs := by
  rcases tRecs_cases key kd pa cu am m recs with e | ⟨_, e⟩ <;> simp [e]
/-- the check of one reply against one record -/
theorem told_law {key kd pa cu : ByteArray} {am att m : Int} {recs : List A98} {x : A102} (hN : ND recs) (hx : x ∈ tTold key kd att m recs) (k : Nat) (hk : k < (tRecs key kd pa cu am m recs).length) :
    (x.f0.toList == (tRecs key kd pa cu am m recs)[k].f0.toList) = false ∨ (x.f1.toList == [97, 99, 99, 101, 112, 116, 101, 100]) = (tRecs key kd pa cu am m recs)[k].f4 := by
  obtain ⟨hg, rfl⟩ := told_mem hx
  have e : tRecs key kd pa cu am m recs = sRecs key kd pa cu am m recs := by simp only [tRecs, hg, if_true]
  simp only [e] at hk ⊢
  by_cases h : key.toList = (sRecs key kd pa cu am m recs)[k].f0.toList
  · exact Or.inr (told_ok hN k hk h.symm)
  · exact Or.inl (by simpa [sX] using h)

end Go.Proofs.Ytliacfjdenfldaa
