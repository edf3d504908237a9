import Derived.Test.YtliacfjdenfldaaRp
import Derived.Test.YtliacfjdenfldaaAttG
/- The walk of run. -/
namespace Go.Proofs.Ytliacfjdenfldaa
open Go.RowKit Go.Proofs.Kq
open Go.Proofs.YtliacfjdenfldaaW.PrintWords (pw_cell_below step_append_cells print_append_cells Kd Kd.C Kd.C_below)
open Go.Proofs.YtliacfjdenfldaaW.PrintLast
set_option linter.unusedSimpArgs false
set_option linter.unusedVariables false

/-- the gateway's blocks, of old -/
def GS (g : Nat) (vr0 vl0 : Value) (k : Nat) : Prop := k = g ∨ vr0.ownBlock = some k ∨ vl0.ownBlock = some k
/-- a gateway, some time on -/
def GR (wi : World) (base g : Nat) (vr0 vl0 : Value) (recs : List A98) (late : List A102) (w : World) : Prop :=
  ∃ vr vl, Gt w base g vr vl recs late ∧ Fr (GS g vr0 vl0) wi w ∧ (∀ k, vr.ownBlock = some k → vr0.ownBlock = some k ∨ wi.heap.size ≤ k) ∧ (∀ k, vl.ownBlock = some k → vl0.ownBlock = some k ∨ wi.heap.size ≤ k)
theorem GR.refl {w : World} {base g : Nat} {vr vl : Value} {recs : List A98} {late : List A102} (h : Gt w base g vr vl recs late) : GR w base g vr vl recs late w :=
  ⟨vr, vl, h, Fr.refl _ _, fun k h => Or.inl h, fun k h => Or.inl h⟩
section
variable {wi : World} {base g : Nat} {vr0 vl0 : Value} {recs : List A98} {late : List A102} {w w1 : World}
theorem GR.fr (h : GR wi base g vr0 vl0 recs late w) : Fr (GS g vr0 vl0) wi w := by obtain ⟨_, _, _, h, _⟩ := h; exact h
theorem GR.below (h : GR wi base g vr0 vl0 recs late w) (hb : Below w.heap.size w w1) : GR wi base g vr0 vl0 recs late w1 := by
  obtain ⟨vr, vl, h1, h2, h3, h4⟩ := h
  exact ⟨vr, vl, h1.below hb, h2.below hb, h3, h4⟩
theorem GR.alloc (h : GR wi base g vr0 vl0 recs late w) (o : Obj) : GR wi base g vr0 vl0 recs late (w.alloc o) := h.below (below_new (Below.refl _ _) o)
theorem GR.set (h : GR wi base g vr0 vl0 recs late w) {b T : Nat} {cs : Array Value} (hB : Blk w b cs T) (h1 : T ≠ 90) (h2 : T ≠ 98) (h3 : T ≠ 102) (hbi : wi.heap.size ≤ b) (o : Nat) (v : Value) : GR wi base g vr0 vl0 recs late (w.setCell ⟨b, o, none⟩ v) := by
  obtain ⟨vr, vl, hG, hF, h5, h6⟩ := h
  have nr := own_nb hG.rec_ hB (fun e => h2 e.symm)
  have nl := own_nb hG.lat hB (fun e => h3 e.symm)
  have ng : g ≠ b := by
    rintro rfl
    have e1 := hG.blk
    unfold Blk at e1 hB
    rw [e1] at hB
    injection hB with hB; injection hB with _ hT; exact h1 hT.symm
  exact ⟨vr, vl, ⟨hG.blk.so ng, hG.rec_.far nr _, hG.lat.far nl _⟩, hF.setCell (fun h => by have : b < wi.heap.size := h; omega) v, h5, h6⟩
/-- a block of another type stays -/
theorem keep_blk {vr vl : Value} {S : Nat → Prop} (hG : Gt w base g vr vl recs late) (hF : Fr S w w1) (hS : ∀ k, S k → GS g vr vl k) {b T : Nat} {cs : Array Value} (hB : Blk w b cs T) (h1 : T ≠ 90) (h2 : T ≠ 98) (h3 : T ≠ 102) : Blk w1 b cs T := by
  refine hF.blk hB (fun h => ?_)
  rcases hS _ h with rfl | h | h
  · have e1 := hG.blk
    unfold Blk at e1 hB
    rw [e1] at hB
    injection hB with hB; injection hB with _ hT; exact h1 hT.symm
  · exact own_nb hG.rec_ hB (fun e => h2 e.symm) h
  · exact own_nb hG.lat hB (fun e => h3 e.symm) h
end
/-- blocks of other types stay -/
def Keeps (w w' : World) : Prop := w.heap.size ≤ w'.heap.size ∧ ∀ b cs T, Blk w b cs T → T ≠ 90 → T ≠ 98 → T ≠ 102 → Blk w' b cs T
theorem Keeps.blk {w w' : World} (h : Keeps w w') {b T : Nat} {cs : Array Value} (hB : Blk w b cs T) (h1 : T ≠ 90) (h2 : T ≠ 98) (h3 : T ≠ 102) : Blk w' b cs T := h.2 b cs T hB h1 h2 h3

def LateR (wi : World) (base g : Nat) (vr0 vl0 : Value) (n : Int) (recs : List A98) (late : List A102) (w : World) (e : Ending) (w' : World) : Prop :=
  e = .returned (.tuple #[.agg #[.string (lX n late).f0, .string (lX n late).f1, .int .i64 (lX n late).f2], .bool (lIs n late)]) ∧ GR wi base g vr0 vl0 recs (lLate n late) w' ∧ Keeps w w'
theorem late_gr (wi : World) (base g : Nat) (vr0 vl0 : Value) (n : Int) (recs : List A98) (late : List A102) (w : World) (hG : GR wi base g vr0 vl0 recs late w) (hb : base ≤ w.heap.size) (hl : late.length ≤ 100000) :
    Calls Try.prog 67 #[.pointer (some ⟨g, 0, none⟩), .int .i64 n] w (LateR wi base g vr0 vl0 n recs late w) := by
  obtain ⟨vr, vl, hG, hF, h1, h2⟩ := hG
  refine (late_any base g vr vl n recs late w hG hb hl).mono ?_
  rintro e w' ⟨rfl, vl', hG', hF', h3⟩
  refine ⟨rfl, ⟨vr, vl', hG', hF.trans hF' ?_, h1, ?_⟩, hF'.size, fun b cs T hB e1 e2 e3 => keep_blk hG hF' (fun k hk => ?_) hB e1 e2 e3⟩
  · intro b hb2 hk
    exact Or.inl hk
  · intro k hk
    rcases h3 k hk with h | h
    · exact h2 k h
    · exact Or.inr (Nat.le_trans hF.size h)
  · exact Or.inl hk
def AskR (wi : World) (base g : Nat) (vr0 vl0 : Value) (key kd pa cu : ByteArray) (am att m : Int) (recs : List A98) (late : List A102) (w : World) (e : Ending) (w' : World) : Prop :=
  ∃ A n c, e = .returned (.slice A n c) ∧ n = (tTold key kd att m recs).length ∧ Own A102.l 3 102 w' w.heap.size (.slice A n c) (tTold key kd att m recs) ∧ GR wi base g vr0 vl0 (tRecs key kd pa cu am m recs) (tLate key kd att m recs late) w' ∧ Keeps w w'
theorem ask_gr (wi : World) (base g : Nat) (vr0 vl0 : Value) (key kd pa cu : ByteArray) (am att c : Int) (recs : List A98) (late : List A102) (w : World) (hG : GR wi base g vr0 vl0 recs late w) (hb : base ≤ w.heap.size)
    (hl : recs.length ≤ 100000) (hl2 : late.length ≤ 100000) (hc : 0 ≤ c ∧ c < 256) :
    Calls Try.prog 49 #[.pointer (some ⟨g, 0, none⟩), .agg #[.string kd, .string key, .string pa, .string cu, .int .i64 am, .int .i64 att], .int .u8 c] w (AskR wi base g vr0 vl0 key kd pa cu am att (c % 8) recs late w) := by
  obtain ⟨vr, vl, hG, hF, h1, h2⟩ := hG
  refine (ask_any base g vr vl key kd pa cu am att c recs late w hG hb hl hl2 hc).mono ?_
  rintro e w' ⟨v, vr', vl', rfl, hv, hG', hF', h3, h4⟩
  obtain ⟨A, c', rfl, _⟩ := hv.slice_
  refine ⟨A, _, c', rfl, rfl, hv, ⟨vr', vl', hG', hF.trans hF' ?_, ?_, ?_⟩, hF'.size, fun b cs T hB e1 e2 e3 => keep_blk hG hF' (fun k hk => hk) hB e1 e2 e3⟩
  · intro b hb2 hk
    rcases hk with h | h | h
    · exact Or.inl h
    · rcases h1 b h with h | h
      · exact Or.inr (Or.inl h)
      · omega
    · rcases h2 b h with h | h
      · exact Or.inr (Or.inr h)
      · omega
  · intro k hk
    rcases h3 k hk with h | h
    · exact h1 k h
    · exact Or.inr (Nat.le_trans hF.size h)
  · intro k hk
    rcases h4 k hk with h | h
    · exact h2 k h
    · exact Or.inr (Nat.le_trans hF.size h)
theorem recs_gr (wi : World) (base g : Nat) (vr0 vl0 : Value) (recs : List A98) (late : List A102) (w : World) (hG : GR wi base g vr0 vl0 recs late w) (hl : recs.length ≤ 100000) :
    Calls Try.prog 48 #[.pointer (some ⟨g, 0, none⟩)] w fun e w' => ∃ A c, e = .returned (.slice A recs.length c) ∧ recs.length ≤ c ∧ Kd.C d98 w' A recs.length recs ∧ Below w.heap.size w w' := by
  obtain ⟨vr, vl, hG, _⟩ := hG
  refine (records_any base g vr vl recs late w hG hl).mono ?_
  rintro e w' ⟨v', rfl, h1, h2⟩
  obtain ⟨A, c, rfl, hc, h⟩ := own98 h1
  exact ⟨A, c, rfl, hc, h, h2⟩
theorem Keeps.below {w w1 : World} (h : Below w.heap.size w w1) : Keeps w w1 := ⟨h.size, fun b cs T hB _ _ _ => hB.be h⟩
theorem Keeps.trans {w w1 w2 : World} (h : Keeps w w1) (k : Keeps w1 w2) : Keeps w w2 := ⟨Nat.le_trans h.1 k.1, fun b cs T hB e1 e2 e3 => k.2 b cs T (h.2 b cs T hB e1 e2 e3) e1 e2 e3⟩

theorem hear_ps (k pa cu : ByteArray) (am : Int) (p : PS) (kd : ByteArray) (att now : Int) (w : World) (ht : -4611686018427387904 ≤ p.t ∧ p.t ≤ 4611686018427387904) (hnow : -4611686018427387904 ≤ now ∧ now ≤ 4611686018427387904) :
    Calls Try.prog 27 #[.agg #[.string k, .string pa, .string cu, .int .i64 am, .string p.s, .int .i64 p.n, .int .i64 p.t, .int .i64 p.a], .string kd, .int .i64 att, .int .i64 now] w fun e w' => ∃ p1 b, p1 = p.hear kd att now ∧ e = .returned (.tuple #[.agg #[.string k, .string pa, .string cu, .int .i64 am, .string p1.s, .int .i64 p1.n, .int .i64 p1.t, .int .i64 p1.a], .bool b]) ∧ Below w.heap.size w w' := by
  refine (hear_any k pa cu am p.s p.n p.t p.a kd att now w ht hnow).mono ?_
  rintro e w' ⟨rfl, hb⟩
  exact ⟨_, _, rfl, by rw [hearV_eq]; rfl, hb⟩
theorem step_go (k pa cu : ByteArray) (am : Int) (p : PS) (now : Int) (w : World) (hgo : stGo p.s p.n now = true)
    (hn : -4611686018427387904 ≤ p.n ∧ p.n ≤ 4611686018427387904) (ht : -4611686018427387904 ≤ p.t ∧ p.t ≤ 4611686018427387904) (ha : -4611686018427387904 ≤ p.a ∧ p.a ≤ 4611686018427387904) (hnow : -4611686018427387904 ≤ now ∧ now ≤ 4611686018427387904) :
    Calls Try.prog 25 #[.agg #[.string k, .string pa, .string cu, .int .i64 am, .string p.s, .int .i64 p.n, .int .i64 p.t, .int .i64 p.a], .int .i64 now] w fun e w' => ∃ p1 kd, p1 = p.step now ∧ kd = rqK p.s p.n now ∧ e = .returned (.tuple #[.agg #[.string k, .string pa, .string cu, .int .i64 am, .string p1.s, .int .i64 p1.n, .int .i64 p1.t, .int .i64 p1.a], .agg #[.string kd, .string k, .string pa, .string cu, .int .i64 am, .int .i64 (p.a + 1)], .bool true]) ∧ Below w.heap.size w w' := by
  refine (step_any k pa cu am p.s p.n p.t p.a now w hn ht ha hnow).mono ?_
  rintro e w' ⟨rfl, hb⟩
  exact ⟨_, _, rfl, rfl, by rw [stepV_eq]; simp only [rqS, rqN, hgo, if_true]; rfl, hb⟩
theorem step_no (k pa cu : ByteArray) (am : Int) (p : PS) (now : Int) (w : World) (hgo : stGo p.s p.n now = false)
    (hn : -4611686018427387904 ≤ p.n ∧ p.n ≤ 4611686018427387904) (ht : -4611686018427387904 ≤ p.t ∧ p.t ≤ 4611686018427387904) (ha : -4611686018427387904 ≤ p.a ∧ p.a ≤ 4611686018427387904) (hnow : -4611686018427387904 ≤ now ∧ now ≤ 4611686018427387904) :
    Calls Try.prog 25 #[.agg #[.string k, .string pa, .string cu, .int .i64 am, .string p.s, .int .i64 p.n, .int .i64 p.t, .int .i64 p.a], .int .i64 now] w fun e w' => e = .returned (.tuple #[.agg #[.string k, .string pa, .string cu, .int .i64 am, .string p.s, .int .i64 p.n, .int .i64 p.t, .int .i64 p.a], .agg #[.string ⟨#[]⟩, .string ⟨#[]⟩, .string ⟨#[]⟩, .string ⟨#[]⟩, .int .i64 0, .int .i64 0], .bool false]) ∧ Below w.heap.size w w' := by
  refine (step_any k pa cu am p.s p.n p.t p.a now w hn ht ha hnow).mono ?_
  rintro e w' ⟨rfl, hb⟩
  exact ⟨by rw [stepV_eq]; simp only [rqS, rqN, rqK, stS, stN, stT, stA, hgo, Bool.false_eq_true, if_false], hb⟩

end Go.Proofs.Ytliacfjdenfldaa
