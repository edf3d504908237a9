import Derived.Test.YtliacfjdenfldaaSb
/- The reference's gateway: Ask. -/
namespace Go.Proofs.Ytliacfjdenfldaa
open Go.RowKit Go.Proofs.Kq
open Go.Proofs.YtliacfjdenfldaaW.PrintWords (pw_cell_below step_append_cells print_append_cells Kd Kd.C Kd.C_below)
open Go.Proofs.YtliacfjdenfldaaW.PrintLast
set_option linter.unusedSimpArgs false
set_option linter.unusedVariables false

theorem kind_any' (m : Nat) (A : Option Addr) (n c : Nat) (vl : Value) (key : ByteArray) (recs : List A98) (w : World) (hn : n = recs.length) (hB : Blk w m #[.slice A n c, vl] 134) (hC : Kd.C d98 w A recs.length recs) (hl : recs.length ≤ 1000000) :
    Calls Try.prog 96 #[.pointer (some ⟨m, 0, none⟩), .string key] w fun e w' => e = .returned (.string (rKind key recs)) ∧ w = w' := by
  subst hn; exact kind_any m A c vl key recs w hB hC hl
def RAskP (base g : Nat) (vr vl : Value) (key kd pa cu : ByteArray) (am att m : Int) (recs : List A98) (late : List A102) (w : World) (e : Ending) (w' : World) : Prop :=
  ∃ v vr' vl', e = .returned v ∧ Own A102.l 3 137 w' w.heap.size v (tTold key kd att m recs) ∧ Rt w' base g vr' vl' (tRecs key kd pa cu am m recs) (tLate key kd att m recs late) ∧
    Fr (fun k => k = g ∨ vr.ownBlock = some k ∨ vl.ownBlock = some k) w w'
theorem rk_old {key : ByteArray} {recs : List A98} (h : fidx key 0 recs ≠ -1) : ((rKind key recs).toList == [117, 110, 107, 110, 111, 119, 110]) = false := by
  rcases fidx_cases key recs 0 with h1 | ⟨k, hk, h1, _⟩
  · exact absurd h1 h
  · rw [rKind_at hk (by rw [h1]; simp)]
    split
    · rw [kAccepted_l]; rfl
    · rw [kDeclined_l]; rfl
theorem sk_same {key kd : ByteArray} {m : Int} {recs : List A98} (h : ¬ (fidx key 0 recs = -1 ∧ kd.toList = [112, 97, 121])) : sKind key kd m recs = rKind key recs := by
  unfold sKind sMoved rKind
  rcases fidx_cases key recs 0 with h1 | ⟨k, hk, h1, _⟩
  · have hp : ¬ kd.toList = [112, 97, 121] := fun e => h ⟨h1, e⟩
    have hlt : fidx key 0 recs < 0 := by omega
    rw [if_pos ⟨hlt, hp⟩, if_pos hlt]
  · have hlt : ¬ fidx key 0 recs < 0 := by rw [h1]; omega
    rw [if_neg (fun g => hlt g.1), if_neg hlt, if_neg hlt]; rfl
theorem sr_same {key kd pa cu : ByteArray} {am m : Int} {recs : List A98} (h : ¬ (fidx key 0 recs = -1 ∧ kd.toList = [112, 97, 121])) : sRecs key kd pa cu am m recs = recs := by
  unfold sRecs
  rcases fidx_cases key recs 0 with h1 | ⟨k, hk, h1, _⟩
  · rw [if_neg (fun g => h ⟨h1, g.2⟩)]
  · rw [if_neg (fun g => by rw [h1] at g; omega)]
theorem sk_made {key kd pa cu : ByteArray} {am m : Int} {recs : List A98} (h0 : fidx key 0 recs = -1) (hp : kd.toList = [112, 97, 121]) : rKind key (recs ++ [⟨key, pa, cu, am, !dec m⟩]) = sKind key kd m recs := by
  rw [sk_new h0 hp]
  have hf : fidx key 0 (recs ++ [⟨key, pa, cu, am, !dec m⟩]) = recs.length := by
    rw [fidx_skip key _ 0 recs.length (fun j hj hjk => by
      rw [List.getElem_append_left hjk]; exact fidx_none h0 j hjk), if_pos (by simp), List.drop_left]
    simp [fidx]
  rw [rKind_at (k := recs.length) (by simp) hf]
  cases dec m <;> simp
theorem sr_made {key kd pa cu : ByteArray} {am m : Int} {recs : List A98} (h0 : fidx key 0 recs = -1) (hp : kd.toList = [112, 97, 121]) : sRecs key kd pa cu am m recs = recs ++ [⟨key, pa, cu, am, !dec m⟩] := by
  unfold sRecs; rw [if_pos ⟨by omega, hp⟩]
set_option maxHeartbeats 1000000 in
theorem rask_no (base g : Nat) (vr vl : Value) (key kd pa cu : ByteArray) (am att c : Int) (recs : List A98) (late : List A102) (w : World)
    (hG : Rt w base g vr vl recs late) (hc : 0 ≤ c ∧ c < 256) (h : gOk kd (c % 8) = false) :
    Calls Try.prog 71 #[.pointer (some ⟨g, 0, none⟩), .agg #[.string kd, .string key, .string pa, .string cu, .int .i64 am, .int .i64 att], .int .u8 c] w (RAskP base g vr vl key kd pa cu am att (c % 8) recs late w) := by
  have hend : Hid (∀ w', Below w.heap.size w w' → RAskP base g vr vl key kd pa cu am att (c % 8) recs late w (.returned (.slice none 0 0)) w') := fun w' hb =>
    ⟨_, vr, vl, rfl, by simp only [tTold, h, Bool.false_eq_true, if_false]; exact Own.nil _ _ _ _ _, by simp only [tRecs, tLate, h, Bool.false_eq_true, false_and, if_false]; exact hG.below hb, Fr.of_below hb⟩
  by_cases h0 : c % 8 = 0
  · clear h hG
    go_enter Try.func71, Try.ntmps71
    go_wp2
    go_ret
    exact hend.out _ (below_new (Below.refl _ _) _)
  · have hp : (kd.toList == [112, 97, 121]) = false := by
      have : (c % 8 != 0) = true := by simpa using h0
      simp only [gOk, this, Bool.true_and, asks, Bool.or_eq_false_iff] at h
      exact h.1
    have hq : (kd.toList == [113, 117, 101, 114, 121]) = false := by
      have : (c % 8 != 0) = true := by simpa using h0
      simp only [gOk, this, Bool.true_and, asks, Bool.or_eq_false_iff] at h
      exact h.2
    clear h hG
    go_enter Try.func71, Try.ntmps71
    go_wp2
    go_ret
    exact hend.out _ (below_new (Below.refl _ _) _)
end Go.Proofs.Ytliacfjdenfldaa
