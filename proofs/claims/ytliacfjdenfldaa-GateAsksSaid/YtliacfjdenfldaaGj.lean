import Derived.Test.YtliacfjdenfldaaGi
namespace Go.Proofs.Ytliacfjdenfldaa
open Go.RowKit Go.Proofs.Kq
open Go.Proofs.YtliacfjdenfldaaW.PrintWords (pw_cell_below step_append_cells print_append_cells Kd Kd.C Kd.C_below)
open Go.Proofs.YtliacfjdenfldaaW.PrintLast
set_option linter.unusedSimpArgs false
set_option linter.unusedVariables false

def bPay : ByteArray := ⟨#[112, 97, 121]⟩
def bQuery : ByteArray := ⟨#[113, 117, 101, 114, 121]⟩
def bK : ByteArray := ⟨#[107]⟩
def bNil : ByteArray := ⟨#[]⟩
theorem bPay_l : bPay.toList = [112, 97, 121] := by kernel_rfl
theorem bQuery_l : bQuery.toList = [113, 117, 101, 114, 121] := by kernel_rfl
theorem fidx_nil (key : ByteArray) : fidx key 0 [] = -1 := rfl
theorem live1 : tRecs bK bPay bNil bNil 5 (2 % 8) [] = [⟨bK, bNil, bNil, 5, true⟩] := by
  simp [tRecs, gOk, asks, bPay_l, sRecs, fidx_nil, dec]
theorem live1t : tTold bK bPay 0 (2 % 8) [] = [] := by simp [tTold]
theorem live2t : tTold bK bQuery 2 (1 % 8) [⟨bK, bNil, bNil, 5, true⟩] = [⟨bK, kAccepted, 2⟩] := by
  simp [tTold, gOk, asks, bQuery_l, sX, sKind, sMoved, fidx]

/-- a gateway in a law: all of it lies from the law's own blocks on, and ahead of N -/
def GB (w0 : World) (g : Nat) (recs : List A98) (late : List A102) (N : Nat) (w : World) : Prop :=
  ∃ vr vl, Gt w w0.heap.size g vr vl recs late ∧ Below w0.heap.size w0 w ∧ w0.heap.size ≤ g ∧ g < N ∧ (∀ k, vr.ownBlock = some k → k < N) ∧ (∀ k, vl.ownBlock = some k → k < N)
theorem GB.top {w0 w : World} {g N : Nat} {recs : List A98} {late : List A102} (h : GB w0 g recs late N w) : GB w0 g recs late w.heap.size w := by
  obtain ⟨vr, vl, hG, hb, hg, _, _, _⟩ := h
  exact ⟨vr, vl, hG, hb, hg, hG.blk.lt, fun k hk => hG.rec_.lt hk, fun k hk => hG.lat.lt hk⟩
theorem GB.below {w0 w w1 : World} {g N : Nat} {recs : List A98} {late : List A102} (h : GB w0 g recs late N w) (hb1 : Below w.heap.size w w1) : GB w0 g recs late N w1 := by
  obtain ⟨vr, vl, hG, hb, hg, h1, h2, h3⟩ := h
  exact ⟨vr, vl, hG.below hb1, below_step hb hb1, hg, h1, h2, h3⟩
theorem GB.bel {w0 w : World} {g N : Nat} {recs : List A98} {late : List A102} (h : GB w0 g recs late N w) : Below w0.heap.size w0 w := by
  obtain ⟨vr, vl, hG, hb, _⟩ := h
  exact hb
theorem GB.new {w0 w : World} (hb : Below w0.heap.size w0 w) : GB w0 w.heap.size [] [] (w.heap.size + 1) (w.alloc (.cells #[.slice none 0 0, .slice none 0 0] 90)) :=
  ⟨.slice none 0 0, .slice none 0 0, ⟨Blk.new' rfl, Own.nil _ _ _ _ _, Own.nil _ _ _ _ _⟩, below_new hb _, hb.size, by omega, (fun k h => by cases h), (fun k h => by cases h)⟩

def AskG (w0 : World) (g N : Nat) (key kd pa cu : ByteArray) (am att m : Int) (recs : List A98) (late : List A102) (w : World) (e : Ending) (w' : World) : Prop :=
  ∃ A n c, e = .returned (.slice A n c) ∧ n = (tTold key kd att m recs).length ∧ Own A102.l 3 102 w' w.heap.size (.slice A n c) (tTold key kd att m recs) ∧ GB w0 g (tRecs key kd pa cu am m recs) (tLate key kd att m recs late) w'.heap.size w' ∧
    Fr (fun k => w0.heap.size ≤ k ∧ k < N) w w'
theorem ask_gb (w0 : World) (g N : Nat) (key kd pa cu : ByteArray) (am att c : Int) (recs : List A98) (late : List A102) (w : World)
    (hG : GB w0 g recs late N w) (hl : recs.length ≤ 100000) (hl2 : late.length ≤ 100000) (hc : 0 ≤ c ∧ c < 256) :
    Calls Try.prog 49 #[.pointer (some ⟨g, 0, none⟩), .agg #[.string kd, .string key, .string pa, .string cu, .int .i64 am, .int .i64 att], .int .u8 c] w (AskG w0 g N key kd pa cu am att (c % 8) recs late w) := by
  obtain ⟨vr, vl, hG, hb, hg, h1, h2, h3⟩ := hG
  refine (ask_any w0.heap.size g vr vl key kd pa cu am att c recs late w hG hb.size hl hl2 hc).mono ?_
  rintro e w1 ⟨v, vr', vl', rfl, hv, hG1, hF1, ha1, hl1⟩
  have hF : Fr (fun k => w0.heap.size ≤ k ∧ k < N) w w1 := hF1.mono (fun b _ h => by
    rcases h with rfl | h | h
    · exact ⟨hg, h1⟩
    · exact ⟨hG.rec_.ge h, h2 _ h⟩
    · exact ⟨hG.lat.ge h, h3 _ h⟩)
  obtain ⟨A, c', rfl, _⟩ := hv.slice_
  refine ⟨A, _, c', rfl, rfl, hv, ⟨vr', vl', hG1, ?_, hg, hG1.blk.lt, fun k hk => hG1.rec_.lt hk, fun k hk => hG1.lat.lt hk⟩, hF⟩
  refine (((Fr.of_below (S := fun k => w0.heap.size ≤ k ∧ k < N) hb)).trans hF (fun b _ h => h)).toBelow (fun b hb h => by omega)
theorem records_gb (w0 : World) (g N : Nat) (recs : List A98) (late : List A102) (w : World) (hG : GB w0 g recs late N w) (hl : recs.length ≤ 100000) :
    Calls Try.prog 48 #[.pointer (some ⟨g, 0, none⟩)] w fun e w' => ∃ A c, e = .returned (.slice A recs.length c) ∧ recs.length ≤ c ∧ Own A98.l 5 98 w' w.heap.size (.slice A recs.length c) recs ∧ Kd.C d98 w' A recs.length recs ∧ Below w.heap.size w w' := by
  obtain ⟨vr, vl, hG, _⟩ := hG
  refine (records_any w0.heap.size g vr vl recs late w hG hl).mono ?_
  rintro e w' ⟨v', rfl, h1, h2⟩
  obtain ⟨A, c, rfl, hc, h⟩ := own98 h1
  exact ⟨A, c, rfl, hc, h1, h, h2⟩

set_option maxHeartbeats 1000000 in
theorem lives47 (w : World) : Calls Try.prog 47 #[] w fun e w' => e = .returned (.bool true) ∧ Below w.heap.size w w' := by
  go_enter Try.func47, Try.ntmps47
  go_wp2_with fail
  refine (ask_gb w w.heap.size _ bK bPay bNil bNil 5 0 2 [] [] _ (GB.new (Below.refl _ w)) (by simp) (by simp) (by decide)).mono ?_
  rintro e w1 ⟨A1, n1, c1, rfl, hn1, hv1, hG1, hF1⟩
  rw [live1t] at hn1
  rw [live1] at hG1
  obtain rfl : n1 = 0 := hn1
  simp only []
  go_wp2_with fail
  refine (ask_gb w w.heap.size _ bK bQuery bNil bNil 0 2 1 _ _ _ hG1 (by simp) (by simp [tLate]) (by decide)).mono ?_
  rintro e w2 ⟨A2, n2, c2, rfl, hn2, hv2, hG2, hF2⟩
  rw [live2t] at hn2 hv2
  obtain rfl : n2 = 1 := hn2
  obtain ⟨A, c', hv, _, hC⟩ := own102 hv2
  obtain rfl : A2 = A := by injection hv
  have hb2 := hG2.bel
  simp only []
  go_wp2_with fail
  refine (equal87 [⟨bK, kAccepted, 2⟩] A2 _ c2 _ _ (Kd.C_below hC (below_new (Below.refl _ _) _)) (Kp.C_blk (Blk.new' rfl) rfl (by simp)) (by simp)).mono ?_
  rintro e w3 ⟨rfl, hb3⟩
  simp only []
  go_wp2
  go_ret
  exact ⟨rfl, below_step (below_new hb2 _) hb3⟩

end Go.Proofs.Ytliacfjdenfldaa
