import Derived.Test.YtliacfjdenfldaaMv
/- A payout is paid once at most, and comes to its end: plain laws. -/
namespace Go.Proofs.Ytliacfjdenfldaa
open Go.RowKit Go.Proofs.Kq
set_option linter.unusedSimpArgs false
set_option linter.unusedVariables false

def rl (k pa cu : ByteArray) (am : Int) : Option Bool → List A98
  | none => []
  | some mv => [⟨k, pa, cu, am, mv⟩]
def Kok (r : Option Bool) (kd : ByteArray) : Prop := kd = kUnknown ∨ (r = some true ∧ kd = kAccepted) ∨ (r = some false ∧ kd = kDeclined)
def Jp (r : Option Bool) (s : List UInt8) : Prop := s = sReady ∨ s = sAsked ∨ s = sQueried ∨ (s = sPaid ∧ r = some true) ∨ (s = sBack ∧ r = some false)
def Ext (r r' : Option Bool) : Prop := r = none ∨ r' = r
theorem Ext.refl (r : Option Bool) : Ext r r := Or.inr rfl
theorem Ext.trans {a b c : Option Bool} (h : Ext a b) (k : Ext b c) : Ext a c := by
  rcases h with h | h
  · exact Or.inl h
  · subst h; exact k
theorem Kok.ext {r r' : Option Bool} {kd : ByteArray} (h : Kok r kd) (e : Ext r r') : Kok r' kd := by
  rcases e with e | e
  · subst e
    rcases h with h | ⟨h, _⟩ | ⟨h, _⟩
    · exact Or.inl h
    · cases h
    · cases h
  · subst e; exact h
theorem Jp.ext {r r' : Option Bool} {s : List UInt8} (h : Jp r s) (e : Ext r r') : Jp r' s := by
  rcases e with e | e
  · subst e
    rcases h with h | h | h | ⟨_, h⟩ | ⟨_, h⟩
    · exact Or.inl h
    · exact Or.inr (Or.inl h)
    · exact Or.inr (Or.inr (Or.inl h))
    · cases h
    · cases h
  · subst e; exact h
theorem l_ready : (⟨#[114, 101, 97, 100, 121]⟩ : ByteArray).toList = sReady := by kernel_rfl
theorem l_asked : (⟨#[97, 115, 107, 101, 100]⟩ : ByteArray).toList = sAsked := by kernel_rfl
theorem l_queried : (⟨#[113, 117, 101, 114, 105, 101, 100]⟩ : ByteArray).toList = sQueried := by kernel_rfl
theorem l_paid : (⟨#[112, 97, 105, 100]⟩ : ByteArray).toList = sPaid := by kernel_rfl
theorem l_back : (⟨#[98, 97, 99, 107]⟩ : ByteArray).toList = sBack := by kernel_rfl
theorem l_pay : (⟨#[112, 97, 121]⟩ : ByteArray).toList = sPay := by kernel_rfl
theorem l_query : (⟨#[113, 117, 101, 114, 121]⟩ : ByteArray).toList = sQuery := by kernel_rfl

theorem hear_Jp {r : Option Bool} {s kd : ByteArray} {att a : Int} (h : Jp r s.toList) (hk : Kok r kd) : Jp r (hrS s kd att a).toList := by
  unfold hrS
  split
  · exact h
  split
  · rename_i _ e
    rcases hk with rfl | ⟨hr, rfl⟩ | ⟨hr, rfl⟩
    · rw [kUnknown_l] at e; cases e
    · exact Or.inr (Or.inr (Or.inr (Or.inl ⟨l_paid, hr⟩)))
    · rw [kDeclined_l] at e; cases e
  split
  · rename_i _ _ e
    rcases hk with rfl | ⟨hr, rfl⟩ | ⟨hr, rfl⟩
    · rw [kUnknown_l] at e; cases e
    · rw [kAccepted_l] at e; cases e
    · exact Or.inr (Or.inr (Or.inr (Or.inr ⟨l_back, hr⟩)))
  split
  · exact Or.inl l_ready
  · exact h
theorem step_Jp {r : Option Bool} {s : ByteArray} {n now : Int} (h : Jp r s.toList) : Jp r (stS s n now).toList := by
  unfold stS
  split
  · split
    · exact Or.inr (Or.inl l_asked)
    · split
      · exact Or.inr (Or.inr (Or.inl l_queried))
      · exact h
  · exact h
structure J (k pa cu : ByteArray) (am : Int) (r : Option Bool) (st : RS) : Prop where
  recs : st.recs = rl k pa cu am r
  sp : Jp r st.p.s.toList
  late : ∀ x ∈ st.late, Kok r x.f1
section
variable {k pa cu : ByteArray} {am : Int}
theorem fidx_rl (k pa cu : ByteArray) (am : Int) (mv : Bool) : fidx k 0 (rl k pa cu am (some mv)) = 0 := by simp [rl, fidx]
theorem sRecs_rl (kd : ByteArray) (m : Int) (r : Option Bool) : sRecs k kd pa cu am m (rl k pa cu am r) = rl k pa cu am (if r = none ∧ kd.toList = sPay then some (!dec m) else r) := by
  cases r with
  | none => by_cases h : kd.toList = [112, 97, 121] <;> simp [sRecs, rl, fidx, h]
  | some mv => simp [sRecs, rl, fidx]
theorem sKind_rl (kd : ByteArray) (m : Int) (r : Option Bool) : Kok (if r = none ∧ kd.toList = sPay then some (!dec m) else r) (sKind k kd m (rl k pa cu am r)) := by
  cases r with
  | none =>
    by_cases h : kd.toList = [112, 97, 121]
    · cases hd : dec m
      · simp [sKind, sMoved, rl, fidx, h, hd, Kok]
      · simp [sKind, sMoved, rl, fidx, h, hd, Kok]
    · simp [sKind, sMoved, rl, fidx, h, Kok]
  | some mv => cases mv <;> simp [sKind, sMoved, rl, fidx, Kok]
def nr (kd : ByteArray) (m : Int) (r : Option Bool) : Option Bool := if gOk kd m = true then (if r = none ∧ kd.toList = sPay then some (!dec m) else r) else r
theorem tRecs_rl (kd : ByteArray) (m : Int) (r : Option Bool) : tRecs k kd pa cu am m (rl k pa cu am r) = rl k pa cu am (nr kd m r) := by
  unfold tRecs nr
  split
  · exact sRecs_rl kd m r
  · rfl
theorem nr_ext (kd : ByteArray) (m : Int) (r : Option Bool) : Ext r (nr kd m r) := by
  unfold nr
  split
  · split
    · rename_i h; exact Or.inl h.1
    · exact Or.inr rfl
  · exact Or.inr rfl
theorem told_kok {kd : ByteArray} {att m : Int} {r : Option Bool} {x : A102} (hx : x ∈ tTold k kd att m (rl k pa cu am r)) : Kok (nr kd m r) x.f1 := by
  obtain ⟨h1, rfl⟩ := told_mem hx
  unfold nr; rw [if_pos h1]
  exact sKind_rl kd m r
theorem late_kok {kd : ByteArray} {att m : Int} {r : Option Bool} {late : List A102} (hl : ∀ x ∈ late, Kok r x.f1) {x : A102} (hx : x ∈ tLate k kd att m (rl k pa cu am r) late) : Kok (nr kd m r) x.f1 := by
  unfold tLate at hx
  split at hx
  · rename_i h
    rcases List.mem_append.1 hx with h1 | h1
    · exact (hl x h1).ext (nr_ext _ _ _)
    · obtain rfl := List.mem_singleton.1 h1
      unfold nr; rw [if_pos h.1]
      exact sKind_rl kd m r
  · exact (hl x hx).ext (nr_ext _ _ _)
theorem hears_Jp {r : Option Bool} {now : Int} : ∀ (l : List A102) (p : PS), Jp r p.s.toList → (∀ x ∈ l, Kok r x.f1) → Jp r (hears p l now).s.toList
  | [], p, h, _ => h
  | x :: l, p, h, hl => hears_Jp l _ (hear_Jp h (hl x (by simp))) (fun y hy => hl y (by simp [hy]))
theorem lX_mem {n : Int} {late : List A102} (h : lIs n late = true) : lX n late ∈ late := by
  simp only [lIs, Bool.and_eq_true, decide_eq_true_eq] at h
  unfold lX
  rw [if_pos h, getD_lt _ _ (by omega)]
  exact List.getElem_mem _
theorem lLate_mem {n : Int} {late : List A102} {x : A102} (h : x ∈ lLate n late) : x ∈ late := by
  unfold lLate at h
  split at h
  · rcases List.mem_append.1 h with h | h
    · exact List.mem_of_mem_take h
    · exact List.mem_of_mem_drop h
  · exact h
theorem rnd_J {r : Option Bool} {st : RS} {c now : Int} (h : J k pa cu am r st) :
    ∃ r', Ext r r' ∧ J k pa cu am r' (rnd k pa cu am st c now) ∧ (c % 8 = 1 → r = none → r' = none ∨ r' = some true) := by
  have h1 : Jp r (rLP st c now).s.toList := by
    unfold rLP
    split
    · rename_i e
      simp only [Bool.and_eq_true] at e
      exact hear_Jp h.sp (h.late _ (lX_mem e.1))
    · exact h.sp
  have h2 : ∀ x ∈ lLate (c / 8 % 4) st.late, Kok r x.f1 := fun x hx => h.late x (lLate_mem hx)
  unfold rnd rStep
  generalize rLP st c now = p at *
  generalize lLate (c / 8 % 4) st.late = late at *
  rw [h.recs]
  split
  · refine ⟨nr (rqK p.s p.n now) (c % 8) r, nr_ext _ _ _, ⟨tRecs_rl _ _ _, ?_, ?_⟩, ?_⟩
    · exact hears_Jp _ _ ((step_Jp h1).ext (nr_ext _ _ _)) (fun x hx => told_kok hx)
    · exact fun x hx => late_kok h2 hx
    · intro hc hr
      subst hr
      unfold nr
      split
      · split
        · right; rw [hc]; rfl
        · exact Or.inl rfl
      · exact Or.inl rfl
  · exact ⟨r, Ext.refl _, ⟨rfl, h1, h2⟩, fun _ hr => Or.inl hr⟩
theorem runs_J : ∀ (zs : List Int) {r : Option Bool} {st : RS} {now : Int}, J k pa cu am r st → ∃ r', Ext r r' ∧ J k pa cu am r' (runs k pa cu am now st zs)
  | [], r, st, now, h => ⟨r, Ext.refl _, h⟩
  | z :: zs, r, st, now, h => by
    obtain ⟨r1, e1, h1, _⟩ := rnd_J (c := z) (now := now) h
    obtain ⟨r2, e2, h2⟩ := runs_J zs (now := now + 1) h1
    exact ⟨r2, e1.trans e2, h2⟩
theorem mv_none : mvN k (rl k pa cu am none) = 0 ∧ mvS k (rl k pa cu am none) = 0 := ⟨rfl, rfl⟩
theorem mv_false : mvN k (rl k pa cu am (some false)) = 0 ∧ mvS k (rl k pa cu am (some false)) = 0 := by simp [rl, mvN, mvS, mvB]
theorem mv_true : mvN k (rl k pa cu am (some true)) = 1 ∧ mvS k (rl k pa cu am (some true)) = am := by simp [rl, mvN, mvS, mvB]
theorem mv_bd (h0 : 0 ≤ am) (h1 : am ≤ 1000000000000) (r : Option Bool) (m : Nat) : 0 ≤ mvS k ((rl k pa cu am r).take m) ∧ mvS k ((rl k pa cu am r).take m) ≤ 1000000000000 := by
  cases r with
  | none => simp [rl, mvS]
  | some mv =>
    cases m with
    | zero => simp [mvS]
    | succ m => cases mv <;> simp [rl, mvS, mvB, h0, h1]

/- to the end -/
def ovr (st : RS) : Prop := isOver st.p.s = true
theorem rLP1 (st : RS) (now : Int) : rLP st 1 now = st.p := by
  unfold rLP; rw [if_neg (by simp)]
theorem rnd_over {st : RS} {now : Int} (h : ovr st) : (rnd k pa cu am st 1 now).p = st.p ∧ (rnd k pa cu am st 1 now).recs = st.recs := by
  unfold rnd rStep
  rw [rLP1, if_neg (by have : isOver st.p.s = true := h; simp [stGo, this])]
  exact ⟨rfl, rfl⟩
theorem rnd_wait {st : RS} {now : Int} (h : now < st.p.n) : (rnd k pa cu am st 1 now).p = st.p ∧ (rnd k pa cu am st 1 now).recs = st.recs := by
  unfold rnd rStep
  rw [rLP1, if_neg (by simp [stGo, h])]
  exact ⟨rfl, rfl⟩
theorem hear_over {p : PS} {kd : ByteArray} {att now : Int} (h : kd = kAccepted ∨ kd = kDeclined) : isOver (p.hear kd att now).s = true := by
  show isOver (hrS p.s kd att p.a) = true
  unfold hrS
  split
  · assumption
  split
  · simp [isOver, l_paid]
  split
  · simp [isOver, l_back]
  · rename_i h1 h2
    rcases h with rfl | rfl
    · exact absurd kAccepted_l h1
    · exact absurd kDeclined_l h2
theorem asks_rq {s : ByteArray} {n now : Int} (h : stGo s n now = true) : gOk (rqK s n now) 1 = true := by
  unfold gOk rqK asks
  rw [if_pos h]
  split <;> simp [l_pay, l_query]
/-- a round in which something is asked, and told at once -/
theorem rnd_go {r : Option Bool} {st : RS} {now : Int} (h : J k pa cu am r st) (h0 : ¬ ovr st) (hn : st.p.n ≤ now) (ht : 0 ≤ st.p.t) :
    ovr (rnd k pa cu am st 1 now) ∨ ((rnd k pa cu am st 1 now).p.s.toList = sReady ∧ (rnd k pa cu am st 1 now).p.n ≤ now + 8 ∧ ¬ st.p.s.toList = sReady) := by
  have hgo : stGo st.p.s st.p.n now = true := by
    have h1 : isOver st.p.s = false := by simpa [ovr] using h0
    simp [stGo, h1]; omega
  have hg := asks_rq hgo
  have hrnd : (rnd k pa cu am st 1 now).p = (st.p.step now).hear (sKind k (rqK st.p.s st.p.n now) 1 (rl k pa cu am r)) (st.p.a + 1) now := by
    unfold rnd rStep
    rw [rLP1, if_pos hgo, h.recs]
    simp [tTold, hg, hears, sX]
  rw [ovr, hrnd]
  by_cases hs : st.p.s.toList = sReady
  · left
    refine hear_over ?_
    have hp : (rqK st.p.s st.p.n now).toList = sPay := by unfold rqK; rw [if_pos hgo, if_pos hs]; exact l_pay
    have := sKind_rl (k := k) (pa := pa) (cu := cu) (am := am) (rqK st.p.s st.p.n now) 1 r
    rcases this with e | ⟨_, e⟩ | ⟨_, e⟩
    · exfalso
      unfold sKind at e
      rw [if_neg (fun g => g.2 hp)] at e
      split at e <;> exact absurd (congrArg ByteArray.toList e) (by first | (rw [kAccepted_l, kUnknown_l]; decide) | (rw [kDeclined_l, kUnknown_l]; decide))
    · exact Or.inl e
    · exact Or.inr e
  · have hq : (st.p.step now).s.toList = sQueried := by
      show (stS st.p.s st.p.n now).toList = _
      unfold stS
      rw [if_pos hgo, if_neg hs]
      split
      · exact l_queried
      · rename_i hs2
        rcases h.sp with e | e | e | ⟨e, _⟩ | ⟨e, _⟩
        · exact absurd e hs
        · exact absurd e hs2
        · exact e
        · exact absurd (by simp [ovr, isOver, e]) h0
        · exact absurd (by simp [ovr, isOver, e]) h0
    have ha : (st.p.step now).a = st.p.a + 1 := by show stA _ _ _ _ = _; unfold stA; rw [if_pos hgo]
    have := sKind_rl (k := k) (pa := pa) (cu := cu) (am := am) (rqK st.p.s st.p.n now) 1 r
    rcases this with e | ⟨_, e⟩ | ⟨_, e⟩
    · right
      rw [e]
      have ho : isOver (st.p.step now).s = false := by simp [isOver, hq]
      have hu : hrUn (st.p.step now).s kUnknown (st.p.a + 1) (st.p.step now).a = true := by
        simp [hrUn, ho, kUnknown_l, hq, ha]
      refine ⟨?_, ?_, hs⟩
      · show (hrS _ _ _ _).toList = _
        unfold hrS
        rw [if_neg (by simp [ho]), if_neg (by rw [kUnknown_l]; decide), if_neg (by rw [kUnknown_l]; decide), if_pos ⟨kUnknown_l, hq, ha.symm⟩]
        exact l_ready
      · show hrN _ _ _ _ _ _ _ ≤ _
        unfold hrN
        rw [if_pos hu]
        have := bk_hi (st.p.step now).t
        omega
    · exact Or.inl (hear_over (Or.inl e))
    · exact Or.inl (hear_over (Or.inr e))
theorem runs_over : ∀ (N : Nat) {st : RS} {now : Int}, ovr st → ovr (runs k pa cu am now st (List.replicate N 1)) ∧ (runs k pa cu am now st (List.replicate N 1)).recs = st.recs
  | 0, st, now, h => ⟨h, rfl⟩
  | N + 1, st, now, h => by
    obtain ⟨h1, h2⟩ := rnd_over (k := k) (pa := pa) (cu := cu) (am := am) (now := now) h
    have h3 : ovr (rnd k pa cu am st 1 now) := by unfold ovr; rw [h1]; exact h
    obtain ⟨h4, h5⟩ := runs_over N (now := now + 1) h3
    exact ⟨h4, h5.trans h2⟩
theorem endA : ∀ (d N : Nat) {r : Option Bool} {st : RS} {now : Int}, d + 1 ≤ N → J k pa cu am r st → st.p.s.toList = sReady → st.p.n ≤ now + d → 0 ≤ st.p.t → ovr (runs k pa cu am now st (List.replicate N 1))
  | d, 0, _, _, _, hN, _, _, _, _ => by omega
  | d, N + 1, r, st, now, hN, h, hs, hn, ht => by
    show ovr (runs k pa cu am (now + 1) (rnd k pa cu am st 1 now) (List.replicate N 1))
    by_cases hw : now < st.p.n
    · obtain ⟨h1, h2⟩ := rnd_wait (k := k) (pa := pa) (cu := cu) (am := am) hw
      obtain ⟨r', _, hJ, _⟩ := rnd_J (c := 1) (now := now) h
      cases d with
      | zero => omega
      | succ d => exact endA d N (by omega) hJ (by rw [h1]; exact hs) (by rw [h1]; omega) (by rw [h1]; exact ht)
    · have h0 : ¬ ovr st := by simp [ovr, isOver, hs]
      rcases rnd_go (now := now) h h0 (by omega) ht with h1 | ⟨_, _, h1⟩
      · exact (runs_over N h1).1
      · exact absurd hs h1
theorem rnd_t {st : RS} {c now j : Int} (h : PB st.p now j) (h0 : 0 ≤ now) : 0 ≤ (rnd k pa cu am st c now).p.t := (h.rnd h0 (k := k) (pa := pa) (cu := cu) (am := am) (c := c)).t0
theorem endB : ∀ (d N : Nat) {r : Option Bool} {st : RS} {now j : Int}, d + 10 ≤ N → J k pa cu am r st → st.p.n ≤ now + d → PB st.p now j → 0 ≤ now → ovr (runs k pa cu am now st (List.replicate N 1))
  | d, 0, _, _, _, _, hN, _, _, _, _ => by omega
  | d, N + 1, r, st, now, j, hN, h, hn, hp, h0 => by
    show ovr (runs k pa cu am (now + 1) (rnd k pa cu am st 1 now) (List.replicate N 1))
    have hp' := hp.rnd h0 (k := k) (pa := pa) (cu := cu) (am := am) (c := 1)
    obtain ⟨r', _, hJ, _⟩ := rnd_J (c := 1) (now := now) h
    by_cases ho : ovr st
    · obtain ⟨h1, h2⟩ := rnd_over (k := k) (pa := pa) (cu := cu) (am := am) (now := now) ho
      exact (runs_over N (by unfold ovr; rw [h1]; exact ho)).1
    by_cases hw : now < st.p.n
    · obtain ⟨h1, h2⟩ := rnd_wait (k := k) (pa := pa) (cu := cu) (am := am) hw
      cases d with
      | zero => omega
      | succ d => exact endB d N (by omega) hJ (by rw [h1]; omega) hp' (by omega)
    · rcases rnd_go (now := now) h ho (by omega) hp.t0 with h1 | ⟨h1, h2, _⟩
      · exact (runs_over N h1).1
      · exact endA 7 N (by omega) hJ h1 (by omega) hp'.t0
theorem runs1_J : ∀ (N : Nat) {r : Option Bool} {st : RS} {now : Int}, J k pa cu am r st → ∃ r', Ext r r' ∧ J k pa cu am r' (runs k pa cu am now st (List.replicate N 1)) ∧ (r = none → r' = none ∨ r' = some true)
  | 0, r, st, now, h => ⟨r, Ext.refl _, h, Or.inl⟩
  | N + 1, r, st, now, h => by
    obtain ⟨r1, e1, h1, g1⟩ := rnd_J (c := 1) (now := now) h
    obtain ⟨r2, e2, h2, g2⟩ := runs1_J N (now := now + 1) h1
    refine ⟨r2, e1.trans e2, h2, fun hr => ?_⟩
    rcases g1 rfl hr with e | e
    · exact g2 e
    · subst e
      rcases e2 with e2 | e2
      · cases e2
      · exact Or.inr e2
end
end Go.Proofs.Ytliacfjdenfldaa
