import Derived.Test.YtliacfjdenfldaaGd
namespace Go.Proofs.Ytliacfjdenfldaa
open Go.RowKit Go.Proofs.Kq
open Go.Proofs.YtliacfjdenfldaaW.PrintWords (pw_cell_below step_append_cells print_append_cells Kd Kd.C Kd.C_below)
open Go.Proofs.YtliacfjdenfldaaW.PrintLast
set_option linter.unusedSimpArgs false
set_option linter.unusedVariables false

/-- is it a pay, or a query -/
def asks (kd : ByteArray) : Bool := kd.toList == [112, 97, 121] || kd.toList == [113, 117, 101, 114, 121]
def gOk (kd : ByteArray) (m : Int) : Bool := m != 0 && asks kd
def sX (key kd : ByteArray) (att m : Int) (recs : List A98) : A102 := ⟨key, sKind key kd m recs, att⟩
def tRecs (key kd pa cu : ByteArray) (am m : Int) (recs : List A98) : List A98 := if gOk kd m = true then sRecs key kd pa cu am m recs else recs
def tLate (key kd : ByteArray) (att m : Int) (recs : List A98) (late : List A102) : List A102 :=
  if gOk kd m = true ∧ (m = 6 ∨ m = 7) then late ++ [sX key kd att m recs] else late
def tTold (key kd : ByteArray) (att m : Int) (recs : List A98) : List A102 :=
  if gOk kd m = true then (if m = 5 then [sX key kd att m recs, sX key kd att m recs] else if m = 1 ∨ m = 3 then [sX key kd att m recs] else []) else []

/-- what Ask does -/
def AskP (base g : Nat) (vr vl : Value) (key kd pa cu : ByteArray) (am att m : Int) (recs : List A98) (late : List A102) (w : World) (e : Ending) (w' : World) : Prop :=
  ∃ v vr' vl', e = .returned v ∧ Own A102.l 3 102 w' w.heap.size v (tTold key kd att m recs) ∧ Gt w' base g vr' vl' (tRecs key kd pa cu am m recs) (tLate key kd att m recs late) ∧
    Fr (fun k => k = g ∨ vr.ownBlock = some k ∨ vl.ownBlock = some k) w w' ∧ (∀ k, vr'.ownBlock = some k → vr.ownBlock = some k ∨ w.heap.size ≤ k) ∧ (∀ k, vl'.ownBlock = some k → vl.ownBlock = some k ∨ w.heap.size ≤ k)

theorem Gt.below {w w' : World} {base g : Nat} {vr vl : Value} {recs : List A98} {late : List A102} (h : Gt w base g vr vl recs late) (hb : Below w.heap.size w w') : Gt w' base g vr vl recs late :=
  ⟨h.blk.be hb, h.rec_.below hb, h.lat.below hb⟩

set_option maxHeartbeats 1000000 in
theorem ask_no (base g : Nat) (vr vl : Value) (key kd pa cu : ByteArray) (am att c : Int) (recs : List A98) (late : List A102) (w : World)
    (hG : Gt w base g vr vl recs late) (hc : 0 ≤ c ∧ c < 256) (h : gOk kd (c % 8) = false) :
    Calls Try.prog 49 #[.pointer (some ⟨g, 0, none⟩), .agg #[.string kd, .string key, .string pa, .string cu, .int .i64 am, .int .i64 att], .int .u8 c] w (AskP base g vr vl key kd pa cu am att (c % 8) recs late w) := by
  have hend : Hid (∀ w', Below w.heap.size w w' → AskP base g vr vl key kd pa cu am att (c % 8) recs late w (.returned (.slice none 0 0)) w') := fun w' hb =>
    ⟨_, vr, vl, rfl, by simp only [tTold, h, Bool.false_eq_true, if_false]; exact Own.nil _ _ _ _ _, by simp only [tRecs, tLate, h, Bool.false_eq_true, false_and, if_false]; exact hG.below hb, Fr.of_below hb, fun k hk => Or.inl hk, fun k hk => Or.inl hk⟩
  by_cases h0 : c % 8 = 0
  · clear h hG
    go_enter Try.func49, Try.ntmps49
    go_wp2
    go_ret
    exact hend.out _ (below_new (Below.refl _ _) _)
  · have hp : (kd.toList == [112, 97, 121]) = false := by
      have : (c % 8 != 0) = true := by simpa using h0
      simp only [gOk, this, Bool.true_and, asks, Bool.or_eq_false_iff] at h
      exact h.1
    have hq : (kd.toList == [113, 117, 101, 114, 121]) = false := by
      have : (c % 8 != 0) = true := by simpa using h0
      simp only [gOk, this, Bool.true_and, asks, Bool.or_eq_false_iff] at h
      exact h.2
    clear h hG
    go_enter Try.func49, Try.ntmps49
    go_wp2
    go_ret
    exact hend.out _ (below_new (Below.refl _ _) _)

theorem Gt.alloc {w : World} {base g : Nat} {vr vl : Value} {recs : List A98} {late : List A102} (h : Gt w base g vr vl recs late) (o : Obj) : Gt (w.alloc o) base g vr vl recs late :=
  ⟨h.blk.al o, h.rec_.alloc o, h.lat.alloc o⟩

set_option maxHeartbeats 2000000 in
theorem ask_yes (base g : Nat) (vr vl : Value) (key kd pa cu : ByteArray) (am att c : Int) (recs : List A98) (late : List A102) (w : World)
    (hG : Gt w base g vr vl recs late) (hb : base ≤ w.heap.size) (hl : recs.length ≤ 100000) (hc : 0 ≤ c ∧ c < 256) (h : gOk kd (c % 8) = true) (hm : c % 8 = 1 ∨ c % 8 = 2 ∨ c % 8 = 3 ∨ c % 8 = 4 ∨ c % 8 = 5) :
    Calls Try.prog 49 #[.pointer (some ⟨g, 0, none⟩), .agg #[.string kd, .string key, .string pa, .string cu, .int .i64 am, .int .i64 att], .int .u8 c] w (AskP base g vr vl key kd pa cu am att (c % 8) recs late w) := by
  have hpq : kd.toList = [112, 97, 121] ∨ ((kd.toList == [112, 97, 121]) = false ∧ kd.toList = [113, 117, 101, 114, 121]) := by
    simp only [gOk, asks, Bool.and_eq_true, Bool.or_eq_true, beq_iff_eq] at h
    by_cases hp : kd.toList = [112, 97, 121]
    · exact Or.inl hp
    · exact Or.inr ⟨by simpa using hp, h.2.resolve_left hp⟩
  have hend : Hid (∀ v vr' w', Own A102.l 3 102 w' w.heap.size v (tTold key kd att (c % 8) recs) → Gt w' base g vr' vl (sRecs key kd pa cu am (c % 8) recs) late →
      Fr (fun k => k = g ∨ vr.ownBlock = some k) w w' → (∀ k, vr'.ownBlock = some k → vr.ownBlock = some k ∨ w.heap.size ≤ k) → AskP base g vr vl key kd pa cu am att (c % 8) recs late w (.returned v) w') := by
    intro v vr' w' h1 h2 h3 h4
    have e : tLate key kd att (c % 8) recs late = late := by simp only [tLate, h, true_and]; rw [if_neg (by omega)]
    exact ⟨v, vr', vl, rfl, h1, by rw [e]; simp only [tRecs, h, if_true]; exact h2, h3.mono (fun b _ hb => by rcases hb with h | h; exact Or.inl h; exact Or.inr (Or.inl h)), h4, fun k hk => Or.inl hk⟩
  have htold : Hid (tTold key kd att (c % 8) recs = if c % 8 = 5 then [sX key kd att (c % 8) recs, sX key kd att (c % 8) recs] else if c % 8 = 1 ∨ c % 8 = 3 then [sX key kd att (c % 8) recs] else []) := by
    show _ = _; simp only [tTold, h, if_true]
  have h0 : (c % 8 == 0) = false := by simp; omega
  have hg := hG.blk.lt
  have HG := hidI hG
  have HM := hidI hm
  clear h hm hG
  rcases hpq with hp | ⟨hp, hq⟩
  all_goals
    go_enter Try.func49, Try.ntmps49
    go_wp2_with fail
    refine (answer_any base g vr vl key kd pa cu am att (c % 8) recs late _ (HG.out.alloc _) (by simp; omega) hl).mono ?_
    rintro e w1 ⟨rfl, vr', hG1, hF1, hat1⟩
    have hs1 := hF1.size
    have hF0 : Fr (fun k => k = g ∨ vr.ownBlock = some k) w w1 := ((Fr.refl _ w).alloc _).trans hF1 (fun b _ h => h)
    have hat : ∀ k, vr'.ownBlock = some k → vr.ownBlock = some k ∨ w.heap.size ≤ k := fun k hk => by
      rcases hat1 k hk with h | h
      · exact Or.inl h
      · simp at h; exact Or.inr (by omega)
    simp only [World.size_alloc] at hs1
    clear hF1 hat1
    rcases HM.out with hm | hm | hm | hm | hm
    all_goals
      go_wp2
      go_ret
      first
      | (refine hend.out (.slice none 0 0) vr' _ ?_ (hG1.alloc _) (hF0.alloc _) hat
         rw [htold.out, hm]; exact Own.nil _ _ _ _ _)
      | (refine hend.out (.slice (some ⟨w1.heap.size + 1, 0, none⟩) 1 1) vr' _ ?_ ((hG1.alloc _).alloc _) ((hF0.alloc _).alloc _) hat
         rw [htold.out, hm]
         exact Own.lit (xs := [sX key kd att _ recs]) (Blk.new' (by simp)) rfl rfl (by omega) (by simp))
      | (refine hend.out (.slice (some ⟨w1.heap.size + 1, 0, none⟩) 2 2) vr' _ ?_ ((hG1.alloc _).alloc _) ((hF0.alloc _).alloc _) hat
         rw [htold.out, hm]
         exact Own.lit (xs := [sX key kd att _ recs, sX key kd att _ recs]) (Blk.new' (by simp)) rfl rfl (by omega) (by simp))

end Go.Proofs.Ytliacfjdenfldaa
