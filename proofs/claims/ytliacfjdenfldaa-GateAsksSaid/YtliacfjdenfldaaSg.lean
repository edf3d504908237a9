import Derived.Test.YtliacfjdenfldaaSf
/- A gateway and the reference's beside it. -/
namespace Go.Proofs.Ytliacfjdenfldaa
open Go.RowKit Go.Proofs.Kq
open Go.Proofs.YtliacfjdenfldaaW.PrintWords (pw_cell_below step_append_cells print_append_cells Kd Kd.C Kd.C_below)
open Go.Proofs.YtliacfjdenfldaaW.PrintLast
set_option linter.unusedSimpArgs false
set_option linter.unusedVariables false

theorem own_keeps {α : Type} {l : α → List Value} {sz : Nat} {e : TypeId} {w w1 : World} {base : Nat} {v : Value} {xs : List α} (h : Own l sz e w base v xs) (hk : ∀ b cs, base ≤ b → Blk w b cs e → Blk w1 b cs e) : Own l sz e w1 base v xs :=
  h.kept fun k hv => by
    obtain ⟨cur, hc⟩ := h.at_ hv
    have := hk k cur (h.ge hv) hc
    unfold Blk at this
    rw [this, hc]
/-- the gateway's types; the reference's -/
def Tg (T : TypeId) : Prop := T = 90 ∨ T = 98 ∨ T = 102
def Tr (T : TypeId) : Prop := T = 134 ∨ T = 144 ∨ T = 137
theorem blk_type {w : World} {b : Nat} {cs cs' : Array Value} {T T' : TypeId} (h : Blk w b cs T) (h' : Blk w b cs' T') : T = T' := by
  unfold Blk at h h'; rw [h] at h'; injection h' with h'; injection h'
/-- blocks that are none of the gateway's stay -/
def KG (w w' : World) : Prop := w.heap.size ≤ w'.heap.size ∧ ∀ b cs T, Blk w b cs T → ¬ Tg T → Blk w' b cs T
/-- blocks that are none of the reference's, or new, stay -/
def KR (N : Nat) (w w' : World) : Prop := w.heap.size ≤ w'.heap.size ∧ ∀ b cs T, Blk w b cs T → (¬ Tr T ∨ N ≤ b) → Blk w' b cs T
theorem KG.of {w w' : World} {base g : Nat} {vr vl : Value} {recs : List A98} {late : List A102} {S : Nat → Prop} (h : Gt w base g vr vl recs late) (hF : Fr S w w') (hS : ∀ k, S k → k = g ∨ vr.ownBlock = some k ∨ vl.ownBlock = some k) : KG w w' :=
  ⟨hF.size, fun b cs T hB hT => hF.blk hB (fun hs => by
    rcases hS b hs with rfl | e | e
    · exact hT (Or.inl (blk_type hB h.blk))
    · obtain ⟨cur, hc⟩ := h.rec_.at_ e; exact hT (Or.inr (Or.inl (blk_type hB hc)))
    · obtain ⟨cur, hc⟩ := h.lat.at_ e; exact hT (Or.inr (Or.inr (blk_type hB hc))))⟩
theorem KR.of {w w' : World} {base g N : Nat} {vr vl : Value} {recs : List A98} {late : List A102} {S : Nat → Prop} (h : Rt w base g vr vl recs late) (hF : Fr S w w') (hS : ∀ k, S k → k = g ∨ vr.ownBlock = some k ∨ vl.ownBlock = some k)
    (hN : ∀ k, k = g ∨ vr.ownBlock = some k ∨ vl.ownBlock = some k → k < N) : KR N w w' :=
  ⟨hF.size, fun b cs T hB hT => hF.blk hB (fun hs => by
    have hb := hN b (hS b hs)
    rcases hT with hT | hT
    · rcases hS b hs with rfl | e | e
      · exact hT (Or.inl (blk_type hB h.blk))
      · obtain ⟨cur, hc⟩ := h.rec_.at_ e; exact hT (Or.inr (Or.inl (blk_type hB hc)))
      · obtain ⟨cur, hc⟩ := h.lat.at_ e; exact hT (Or.inr (Or.inr (blk_type hB hc)))
    · omega)⟩
theorem Gt.kr {w w' : World} {N base g : Nat} {vr vl : Value} {recs : List A98} {late : List A102} (h : Gt w base g vr vl recs late) (hk : KR N w w') : Gt w' base g vr vl recs late :=
  ⟨hk.2 _ _ _ h.blk (Or.inl (by unfold Tr; decide)), own_keeps h.rec_ (fun b cs _ hB => hk.2 _ _ _ hB (Or.inl (by unfold Tr; decide))), own_keeps h.lat (fun b cs _ hB => hk.2 _ _ _ hB (Or.inl (by unfold Tr; decide)))⟩
theorem Rt.kg {w w' : World} {base g : Nat} {vr vl : Value} {recs : List A98} {late : List A102} (h : Rt w base g vr vl recs late) (hk : KG w w') : Rt w' base g vr vl recs late :=
  ⟨hk.2 _ _ _ h.blk (by unfold Tg; decide), own_keeps h.rec_ (fun b cs _ hB => hk.2 _ _ _ hB (by unfold Tg; decide)), own_keeps h.lat (fun b cs _ hB => hk.2 _ _ _ hB (by unfold Tg; decide))⟩
/-- both, in a law -/
def GG (w0 : World) (g m N : Nat) (recs : List A98) (late : List A102) (R : List A98) (L : List A102) (w : World) : Prop :=
  ∃ vr vl rr rl, Gt w w0.heap.size g vr vl recs late ∧ Rt w w0.heap.size m rr rl R L ∧ Below w0.heap.size w0 w ∧ w0.heap.size ≤ g ∧ w0.heap.size ≤ m ∧ (∀ k, k = m ∨ rr.ownBlock = some k ∨ rl.ownBlock = some k → k < N)
section
variable {w0 w w1 : World} {g m N : Nat} {recs R : List A98} {late L : List A102}
theorem GG.below (h : GG w0 g m N recs late R L w) (hb : Below w.heap.size w w1) : GG w0 g m N recs late R L w1 := by
  obtain ⟨vr, vl, rr, rl, h1, h2, h3, h4, h5, h6⟩ := h
  exact ⟨vr, vl, rr, rl, h1.below hb, h2.below hb, below_step h3 hb, h4, h5, h6⟩
theorem GG.bel (h : GG w0 g m N recs late R L w) : Below w0.heap.size w0 w := by
  obtain ⟨vr, vl, rr, rl, h1, h2, h3, _⟩ := h
  exact h3
theorem GG.top (h : GG w0 g m N recs late R L w) : GG w0 g m w.heap.size recs late R L w := by
  obtain ⟨vr, vl, rr, rl, h1, h2, h3, h4, h5, h6⟩ := h
  exact ⟨vr, vl, rr, rl, h1, h2, h3, h4, h5, fun k hk => by
    rcases hk with rfl | e | e
    · exact h2.blk.lt
    · exact h2.rec_.lt e
    · exact h2.lat.lt e⟩
theorem GG.new (hb : Below w0.heap.size w0 w) : GG w0 w.heap.size (w.heap.size + 1) (w.heap.size + 2) [] [] [] [] ((w.alloc (.cells #[.slice none 0 0, .slice none 0 0] 90)).alloc (.cells #[.slice none 0 0, .slice none 0 0] 134)) :=
  ⟨.slice none 0 0, .slice none 0 0, .slice none 0 0, .slice none 0 0, ⟨(Blk.new' rfl).al _, Own.nil _ _ _ _ _, Own.nil _ _ _ _ _⟩, ⟨Blk.new' (by simp), Own.nil _ _ _ _ _, Own.nil _ _ _ _ _⟩, below_new (below_new hb _) _, hb.size, by have := hb.size; omega, fun k hk => by
    rcases hk with rfl | e | e
    · omega
    · cases e
    · cases e⟩
theorem GG.mem (h : GG w0 g m N recs late R L w) : ∃ AR cR AL cL, w.cell? ⟨m, 0, none⟩ = some (.slice AR R.length cR) ∧ w.cell? ⟨m, 1, none⟩ = some (.slice AL L.length cL) ∧ Kd.C d98 w AR R.length R := by
  obtain ⟨vr, vl, rr, rl, h1, h2, _⟩ := h
  obtain ⟨AR, cR, rfl, _, hC⟩ := own98e h2.rec_
  obtain ⟨AL, cL, rfl, _, _⟩ := own102e h2.lat
  exact ⟨AR, cR, AL, cL, h2.blk.c 0, h2.blk.c 1, hC⟩
def LateG (w0 : World) (g m N : Nat) (n : Int) (recs : List A98) (late : List A102) (R : List A98) (L : List A102) (w : World) (e : Ending) (w' : World) : Prop :=
  e = .returned (.tuple #[.agg #[.string (lX n late).f0, .string (lX n late).f1, .int .i64 (lX n late).f2], .bool (lIs n late)]) ∧ GG w0 g m N recs (lLate n late) R L w' ∧ KG w w'
theorem late_gg (n : Int) (h : GG w0 g m N recs late R L w) (hl : late.length ≤ 100000) :
    Calls Try.prog 67 #[.pointer (some ⟨g, 0, none⟩), .int .i64 n] w (LateG w0 g m N n recs late R L w) := by
  obtain ⟨vr, vl, rr, rl, h1, h2, h3, h4, h5, h6⟩ := h
  refine (late_any w0.heap.size g vr vl n recs late w h1 h3.size hl).mono ?_
  rintro e w' ⟨rfl, vl', hG', hF', h7⟩
  have hk := KG.of h1 hF' (fun k hk => Or.inl hk)
  exact ⟨rfl, ⟨vr, vl', rr, rl, hG', h2.kg hk, ((Fr.of_below (S := fun k => w0.heap.size ≤ k) h3).trans hF' (fun b _ e => by show _ ≤ _; rw [e]; exact h4)).toBelow (fun b hb2 hk => by omega), h4, h5, h6⟩, hk⟩
def TakeG (w0 : World) (g m N : Nat) (n : Int) (recs : List A98) (late : List A102) (R : List A98) (L : List A102) (w : World) (e : Ending) (w' : World) : Prop :=
  e = .returned (.tuple #[.agg #[.string (lX n L).f0, .string (lX n L).f1, .int .i64 (lX n L).f2], .bool (lIs n L)]) ∧ GG w0 g m w'.heap.size recs late R (lLate n L) w' ∧ KR N w w'
theorem take_gg (n : Int) (h : GG w0 g m N recs late R L w) (hl : L.length ≤ 100000) :
    Calls Try.prog 68 #[.pointer (some ⟨m, 0, none⟩), .int .i64 n] w (TakeG w0 g m N n recs late R L w) := by
  obtain ⟨vr, vl, rr, rl, h1, h2, h3, h4, h5, h6⟩ := h
  refine (take_any w0.heap.size m rr rl n R L w h2 h3.size hl).mono ?_
  rintro e w' ⟨rfl, rl', hG', hF'⟩
  have hk := KR.of h2 hF' (fun k hk => Or.inl hk) h6
  have hGG : GG w0 g m w'.heap.size recs late R (lLate n L) w' := ⟨vr, vl, rr, rl', h1.kr hk, hG', ((Fr.of_below (S := fun k => w0.heap.size ≤ k) h3).trans hF' (fun b _ e => by show _ ≤ _; rw [e]; exact h5)).toBelow (fun b hb2 hk => by omega), h4, h5, fun k hk => by
    rcases hk with rfl | e | e
    · exact hG'.blk.lt
    · exact hG'.rec_.lt e
    · exact hG'.lat.lt e⟩
  exact ⟨rfl, hGG, hk⟩
def AskGG (w0 : World) (g m N : Nat) (key kd pa cu : ByteArray) (am att c : Int) (recs : List A98) (late : List A102) (R : List A98) (L : List A102) (w : World) (e : Ending) (w' : World) : Prop :=
  ∃ A n cc, e = .returned (.slice A n cc) ∧ n = (tTold key kd att c recs).length ∧ Own A102.l 3 102 w' w.heap.size (.slice A n cc) (tTold key kd att c recs) ∧ GG w0 g m N (tRecs key kd pa cu am c recs) (tLate key kd att c recs late) R L w' ∧ KG w w'
theorem ask_gg (key kd pa cu : ByteArray) (am att c : Int) (h : GG w0 g m N recs late R L w) (hl : recs.length ≤ 100000) (hl2 : late.length ≤ 100000) (hc : 0 ≤ c ∧ c < 256) :
    Calls Try.prog 49 #[.pointer (some ⟨g, 0, none⟩), .agg #[.string kd, .string key, .string pa, .string cu, .int .i64 am, .int .i64 att], .int .u8 c] w (AskGG w0 g m N key kd pa cu am att (c % 8) recs late R L w) := by
  obtain ⟨vr, vl, rr, rl, h1, h2, h3, h4, h5, h6⟩ := h
  refine (ask_any w0.heap.size g vr vl key kd pa cu am att c recs late w h1 h3.size hl hl2 hc).mono ?_
  rintro e w' ⟨v, vr', vl', rfl, hv, hG', hF', _, _⟩
  have hk := KG.of h1 hF' (fun k hk => hk)
  obtain ⟨A, c', rfl, _⟩ := hv.slice_
  refine ⟨A, _, c', rfl, rfl, hv, ⟨vr', vl', rr, rl, hG', h2.kg hk, ((Fr.of_below (S := fun k => w0.heap.size ≤ k) h3).trans hF' (fun b _ e => ?_)).toBelow (fun b hb2 hk => by omega), h4, h5, h6⟩, hk⟩
  rcases e with rfl | e | e
  · exact h4
  · exact h1.rec_.ge e
  · exact h1.lat.ge e
def RAskGG (w0 : World) (g m N : Nat) (key kd pa cu : ByteArray) (am att c : Int) (recs : List A98) (late : List A102) (R : List A98) (L : List A102) (w : World) (e : Ending) (w' : World) : Prop :=
  ∃ A n cc, e = .returned (.slice A n cc) ∧ n = (tTold key kd att c R).length ∧ Own A102.l 3 137 w' w.heap.size (.slice A n cc) (tTold key kd att c R) ∧ GG w0 g m w'.heap.size recs late (tRecs key kd pa cu am c R) (tLate key kd att c R L) w' ∧ KR N w w'
theorem rask_gg (key kd pa cu : ByteArray) (am att c : Int) (h : GG w0 g m N recs late R L w) (hl : R.length ≤ 100000) (hl2 : L.length ≤ 100000) (hc : 0 ≤ c ∧ c < 256) :
    Calls Try.prog 71 #[.pointer (some ⟨m, 0, none⟩), .agg #[.string kd, .string key, .string pa, .string cu, .int .i64 am, .int .i64 att], .int .u8 c] w (RAskGG w0 g m N key kd pa cu am att (c % 8) recs late R L w) := by
  obtain ⟨vr, vl, rr, rl, h1, h2, h3, h4, h5, h6⟩ := h
  refine (rask_any w0.heap.size m rr rl key kd pa cu am att c R L w h2 h3.size hl hl2 hc).mono ?_
  rintro e w' ⟨v, rr', rl', rfl, hv, hG', hF'⟩
  have hk := KR.of h2 hF' (fun k hk => hk) h6
  obtain ⟨A, c', rfl, _⟩ := hv.slice_
  refine ⟨A, _, c', rfl, rfl, hv, ⟨vr, vl, rr', rl', h1.kr hk, hG', ((Fr.of_below (S := fun k => w0.heap.size ≤ k) h3).trans hF' (fun b _ e => ?_)).toBelow (fun b hb2 hk => by omega), h4, h5, fun k hk => ?_⟩, hk⟩
  · rcases e with rfl | e | e
    · exact h5
    · exact h2.rec_.ge e
    · exact h2.lat.ge e
  · rcases hk with rfl | e | e
    · exact hG'.blk.lt
    · exact hG'.rec_.lt e
    · exact hG'.lat.lt e
theorem records_gg (h : GG w0 g m N recs late R L w) (hl : recs.length ≤ 100000) :
    Calls Try.prog 48 #[.pointer (some ⟨g, 0, none⟩)] w fun e w' => ∃ A c, e = .returned (.slice A recs.length c) ∧ Kd.C d98 w' A recs.length recs ∧ Below w.heap.size w w' := by
  obtain ⟨vr, vl, rr, rl, h1, _⟩ := h
  refine (records_any w0.heap.size g vr vl recs late w h1 hl).mono ?_
  rintro e w' ⟨v', rfl, h1, h2⟩
  obtain ⟨A, c, rfl, hc, h⟩ := own98 h1
  exact ⟨A, c, rfl, h, h2⟩
theorem waiting_gg (h : GG w0 g m N recs late R L w) :
    Calls Try.prog 74 #[.pointer (some ⟨g, 0, none⟩)] w fun e w' => e = .returned (.int .i64 late.length) ∧ w = w' := by
  obtain ⟨vr, vl, rr, rl, h1, _⟩ := h
  exact (waiting_any w0.heap.size g vr vl recs late w h1).mono fun e w' h => ⟨h.1, h.2.symm⟩
end
set_option maxHeartbeats 1000000 in
theorem late_nil (w : World) : Calls Try.prog 67 #[.pointer none, .int .i64 0] w fun e w' => e = .returned (.tuple #[.agg #[.string ⟨#[]⟩, .string ⟨#[]⟩, .int .i64 0], .bool false]) ∧ Below w.heap.size w w' := by
  go_enter Try.func67, Try.ntmps67
  go_wp2
  refine bodyPost_ret (v := .tuple #[.agg #[.string ⟨#[]⟩, .string ⟨#[]⟩, .int .i64 0], .bool false]) (res67 (Blk.new' rfl) rfl rfl rfl rfl rfl) rfl ?_
  exact ⟨rfl, by repeat (first | exact Below.refl _ _ | apply below_new)⟩
set_option maxHeartbeats 1000000 in
theorem ask_nil (kd key pa cu : ByteArray) (am att c : Int) (w : World) (hc : 0 ≤ c ∧ c < 256) : Calls Try.prog 49 #[.pointer none, .agg #[.string kd, .string key, .string pa, .string cu, .int .i64 am, .int .i64 att], .int .u8 c] w fun e w' => e = .returned (.slice none 0 0) ∧ Below w.heap.size w w' := by
  go_enter Try.func49, Try.ntmps49
  go_wp2
  go_ret
  exact ⟨rfl, below_new (Below.refl _ _) _⟩
set_option maxHeartbeats 1000000 in
theorem waiting_nil (w : World) : Calls Try.prog 74 #[.pointer none] w fun e w' => e = .returned (.int .i64 0) ∧ w = w' := by
  go_enter Try.func74, Try.ntmps74
  go_wp2
  go_ret
  exact ⟨rfl, rfl⟩
set_option maxHeartbeats 1000000 in
theorem records_nil (w : World) : Calls Try.prog 48 #[.pointer none] w fun e w' => e = .returned (.slice none 0 0) ∧ w = w' := by
  go_enter Try.func48, Try.ntmps48
  go_wp2
  go_ret
  exact ⟨rfl, rfl⟩
end Go.Proofs.Ytliacfjdenfldaa
