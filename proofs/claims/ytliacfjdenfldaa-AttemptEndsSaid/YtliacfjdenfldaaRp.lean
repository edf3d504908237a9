import Derived.Test.YtliacfjdenfldaaGm
import Derived.Test.YtliacfjdenfldaaAttF
/- A payout with a gateway, tick by tick: what run computes. No program in sight. -/
namespace Go.Proofs.Ytliacfjdenfldaa
open Go.RowKit Go.Proofs.Kq
set_option linter.unusedSimpArgs false
set_option linter.unusedVariables false

structure PS where
  s : ByteArray
  n : Int
  t : Int
  a : Int
def PS.hear (p : PS) (kd : ByteArray) (att now : Int) : PS := ⟨hrS p.s kd att p.a, hrN p.s kd p.n p.t att p.a now, hrT p.s kd p.t att p.a, p.a⟩
def PS.step (p : PS) (now : Int) : PS := ⟨stS p.s p.n now, stN p.s p.n p.t now, stT p.s p.n p.t now, stA p.s p.n p.a now⟩
structure RS where
  p : PS
  recs : List A98
  late : List A102
def hears (p : PS) (l : List A102) (now : Int) : PS := l.foldl (fun p x => p.hear x.f1 x.f2 now) p
theorem hears_snoc (p : PS) (l : List A102) (x : A102) (now : Int) : hears p (l ++ [x]) now = (hears p l now).hear x.f1 x.f2 now := by simp [hears]
def rLP (r : RS) (c now : Int) : PS := if (lIs (c / 8 % 4) r.late && decide (128 ≤ c)) = true then r.p.hear (lX (c / 8 % 4) r.late).f1 (lX (c / 8 % 4) r.late).f2 now else r.p
def rStep (k pa cu : ByteArray) (am c now : Int) (p : PS) (recs : List A98) (late : List A102) : RS :=
  if stGo p.s p.n now = true then
    ⟨hears (p.step now) (tTold k (rqK p.s p.n now) (p.a + 1) (c % 8) recs) now, tRecs k (rqK p.s p.n now) pa cu am (c % 8) recs, tLate k (rqK p.s p.n now) (p.a + 1) (c % 8) recs late⟩
  else ⟨p, recs, late⟩
def rnd (k pa cu : ByteArray) (am : Int) (r : RS) (c now : Int) : RS := rStep k pa cu am c now (rLP r c now) r.recs (lLate (c / 8 % 4) r.late)
def runs (k pa cu : ByteArray) (am : Int) : Int → RS → List Int → RS
  | _, r, [] => r
  | now, r, c :: cs => runs k pa cu am (now + 1) (rnd k pa cu am r c now) cs
theorem runs_snoc (k pa cu : ByteArray) (am : Int) : ∀ (zs : List Int) (now : Int) (r : RS) (c : Int), runs k pa cu am now r (zs ++ [c]) = rnd k pa cu am (runs k pa cu am now r zs) c (now + zs.length)
  | [], now, r, c => by simp [runs]
  | z :: zs, now, r, c => by
    simp only [List.cons_append, runs, runs_snoc k pa cu am zs (now + 1), List.length_cons]
    congr 1; omega

/-- numbers that stay small -/
structure PB (p : PS) (now j : Int) : Prop where
  n0 : 0 ≤ p.n
  n1 : p.n ≤ now + 10
  t0 : 0 ≤ p.t
  t1 : p.t ≤ j
  a0 : 0 ≤ p.a
  a1 : p.a ≤ j
theorem PB.hear {p : PS} {now j : Int} (h : PB p now j) (h0 : 0 ≤ now) (kd : ByteArray) (att : Int) : PB (p.hear kd att now) now (j + 1) := by
  obtain ⟨a1, a2, a3, a4, a5, a6⟩ := h
  have b1 := bk_lo p.t
  have b2 := bk_hi p.t
  refine ⟨?_, ?_, ?_, ?_, a5, by show p.a ≤ _; omega⟩ <;> simp only [PS.hear, hrN, hrT] <;> split <;> omega
theorem PB.step {p : PS} {now j : Int} (h : PB p now j) (h0 : 0 ≤ now) : PB (p.step now) now (j + 1) := by
  obtain ⟨a1, a2, a3, a4, a5, a6⟩ := h
  have b1 := bk_lo p.t
  have b2 := bk_hi p.t
  refine ⟨?_, ?_, ?_, ?_, ?_, ?_⟩ <;> simp only [PS.step, stN, stT, stA] <;> repeat' split
  all_goals omega
theorem PB.mono {p : PS} {now now' j j' : Int} (h : PB p now j) (h1 : now ≤ now') (h2 : j ≤ j') : PB p now' j' :=
  ⟨h.n0, by have := h.n1; omega, h.t0, by have := h.t1; omega, h.a0, by have := h.a1; omega⟩
theorem PB.hears {now : Int} (h0 : 0 ≤ now) : ∀ (l : List A102) {p : PS} {j : Int}, PB p now j → PB (hears p l now) now (j + l.length)
  | [], p, j, h => h.mono (Int.le_refl _) (by simp)
  | x :: l, p, j, h => by
    have := PB.hears h0 l (h.hear h0 x.f1 x.f2)
    exact this.mono (Int.le_refl _) (by simp only [List.length_cons]; omega)
theorem told2 (key kd : ByteArray) (att m : Int) (recs : List A98) : (tTold key kd att m recs).length ≤ 2 := by
  unfold tTold; split <;> (try split) <;> (try split) <;> simp
theorem PB.rLP {r : RS} {c now j : Int} (h : PB r.p now j) (h0 : 0 ≤ now) : PB (rLP r c now) now (j + 1) := by
  unfold Ytliacfjdenfldaa.rLP; split
  · exact h.hear h0 _ _
  · exact h.mono (Int.le_refl _) (by omega)
theorem PB.rnd {k pa cu : ByteArray} {am : Int} {r : RS} {c now j : Int} (h : PB r.p now j) (h0 : 0 ≤ now) : PB (rnd k pa cu am r c now).p (now + 1) (j + 4) := by
  unfold Ytliacfjdenfldaa.rnd rStep
  split
  · have := told2 k (rqK (Ytliacfjdenfldaa.rLP r c now).s (Ytliacfjdenfldaa.rLP r c now).n now) ((Ytliacfjdenfldaa.rLP r c now).a + 1) (c % 8) r.recs
    exact (PB.hears h0 _ ((PB.rLP h h0).step h0)).mono (by omega) (by omega)
  · exact (PB.rLP h h0).mono (by omega) (by omega)
theorem lLate_len (n : Int) (late : List A102) : (lLate n late).length ≤ late.length := by
  unfold lLate; split <;> simp; omega
structure RB (r : RS) (now j : Int) : Prop where
  pb : PB r.p now j
  l1 : (r.recs.length : Int) ≤ j
  l2 : (r.late.length : Int) ≤ j
theorem RB.rnd {k pa cu : ByteArray} {am : Int} {r : RS} {c now j : Int} (h : RB r now j) (h0 : 0 ≤ now) : RB (rnd k pa cu am r c now) (now + 1) (j + 4) := by
  refine ⟨h.pb.rnd h0, ?_, ?_⟩
  · have h1 := h.l1
    unfold Ytliacfjdenfldaa.rnd rStep
    split
    · have := tRecs_len k (rqK (Ytliacfjdenfldaa.rLP r c now).s (Ytliacfjdenfldaa.rLP r c now).n now) pa cu am (c % 8) r.recs
      simp only; omega
    · simp only; omega
  · have h1 := h.l2
    have h2 := lLate_len (c / 8 % 4) r.late
    unfold Ytliacfjdenfldaa.rnd rStep
    split
    · have := tLate_len k (rqK (Ytliacfjdenfldaa.rLP r c now).s (Ytliacfjdenfldaa.rLP r c now).n now) ((Ytliacfjdenfldaa.rLP r c now).a + 1) (c % 8) r.recs (lLate (c / 8 % 4) r.late)
      simp only; omega
    · simp only; omega
theorem RB.runs {k pa cu : ByteArray} {am : Int} : ∀ (zs : List Int) {r : RS} {now j : Int}, RB r now j → 0 ≤ now → RB (runs k pa cu am now r zs) (now + zs.length) (j + 4 * zs.length)
  | [], r, now, j, h, _ => by simpa [Ytliacfjdenfldaa.runs] using h
  | z :: zs, r, now, j, h, h0 => by
    have := RB.runs (k := k) (pa := pa) (cu := cu) (am := am) zs (h.rnd (k := k) (pa := pa) (cu := cu) (am := am) (c := z) h0) (by omega)
    simp only [Ytliacfjdenfldaa.runs, List.length_cons]
    have e1 : now + 1 + (zs.length : Int) = now + ((zs.length + 1 : Nat) : Int) := by omega
    have e2 : j + 4 + 4 * (zs.length : Int) = j + 4 * ((zs.length + 1 : Nat) : Int) := by omega
    rw [e1, e2] at this
    exact this
end Go.Proofs.Ytliacfjdenfldaa
