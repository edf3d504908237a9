import Derived.Test.YtliacfjdenfldaaRq
namespace Go.Proofs.Ytliacfjdenfldaa
open Go.RowKit Go.Proofs.Kq
open Go.Proofs.YtliacfjdenfldaaW.PrintWords (pw_cell_below step_append_cells print_append_cells Kd Kd.C Kd.C_below)
open Go.Proofs.YtliacfjdenfldaaW.PrintLast
set_option linter.unusedSimpArgs false
set_option linter.unusedVariables false

def bAnn : ByteArray := ⟨#[97, 110, 110]⟩
def bEur : ByteArray := ⟨#[69, 85, 82]⟩
def bReady : ByteArray := ⟨#[114, 101, 97, 100, 121]⟩
def p0 : PS := ⟨bReady, 0, 0, 0⟩
def r0 : RS := ⟨p0, [], []⟩
theorem r0_RB : RB r0 0 0 := ⟨⟨by decide, by decide, by decide, by decide, by decide, by decide⟩, by decide, by decide⟩
theorem r0_J (am : Int) : J bK bAnn bEur am none r0 := ⟨rfl, Or.inl l_ready, fun x hx => by cases hx⟩

/-- a gateway that was made in a law -/
def nilS : Value := .slice none 0 0
theorem GR.bel {w wi w' : World} {base g : Nat} {recs : List A98} {late : List A102} (h : GR wi base g nilS nilS recs late w') (hb : Below w.heap.size w wi) (hg : w.heap.size ≤ g) : Below w.heap.size w w' := by
  refine ((Fr.of_below (S := fun k => w.heap.size ≤ k) hb).trans h.fr (fun b hb2 hk => ?_)).toBelow (fun b hb2 hk => by omega)
  rcases hk with rfl | hk | hk
  · exact hg
  · cases hk
  · cases hk
theorem GR.new {w w1 : World} (hb : Below w.heap.size w w1) : GR (w1.alloc (.cells #[.slice none 0 0, .slice none 0 0] 90)) w.heap.size w1.heap.size nilS nilS [] [] (w1.alloc (.cells #[.slice none 0 0, .slice none 0 0] 90)) :=
  GR.refl ⟨Blk.new' rfl, Own.nil _ _ _ _ _, Own.nil _ _ _ _ _⟩

set_option maxHeartbeats 1000000 in
theorem run_nil (wi : World) (base g : Nat) (vr0 vl0 : Value) (k pa cu : ByteArray) (am now : Int) (r : RS) (ad : Option Addr) (cap : Nat) (w : World)
    (hG : GR wi base g vr0 vl0 r.recs r.late w) :
    Calls Try.prog 75 #[.pointer (some ⟨g, 0, none⟩), .agg #[.string k, .string pa, .string cu, .int .i64 am, .string r.p.s, .int .i64 r.p.n, .int .i64 r.p.t, .int .i64 r.p.a], .int .i64 now, .slice ad 0 cap] w (RunP wi base g vr0 vl0 k pa cu am now r [] w) := by
  have HG := hidI hG
  clear hG
  go_enter Try.func75, Try.ntmps75
  go_wp2_with fail
  refine wp_loop_rounds 1 ?_
  rw [rounds_succ]
  go_wp2
  refine bodyPost_ret (v := .agg #[.string k, .string pa, .string cu, .int .i64 am, .string r.p.s, .int .i64 r.p.n, .int .i64 r.p.t, .int .i64 r.p.a]) (res75 (N := w.heap.size + 1) (Blk.new' (by simp)) rfl) rfl ?_
  exact ⟨r, rfl, rfl, (HG.out.alloc _).alloc _, Keeps.below (below_new (below_new (Below.refl _ _) _) _)⟩

theorem rd8 {w : World} {ad : Option Addr} {zs : List Int} {cap : Nat} (h : Rk.RdSl w (Rk.Kn.int Try.underlying5).cells (Rk.Kn.int Try.underlying5).ok 1 ad zs cap) :
    zs = [] ∨ ∃ b off, ad = some ⟨b, off, none⟩ ∧ (∀ i (h : i < zs.length), w.cell? ⟨b, off + i, none⟩ = some (.int .u8 zs[i])) ∧ ∀ i (h : i < zs.length), 0 ≤ zs[i] ∧ zs[i] < 256 := by
  by_cases h0 : zs = []
  · exact Or.inl h0
  rcases h with ⟨_, h1, _⟩ | ⟨p, rfl, h1, h2, h3, h4, h5⟩
  · exact absurd h1 h0
  have hl := List.length_pos_iff.2 h0
  refine Or.inr ⟨p.block, p.off, by rw [← Kp.addr_eta (h4 hl (by decide))], fun i hi => ?_, fun i hi => ?_⟩
  · have := h5 i hi 0 _ rfl
    rwa [Nat.mul_one, Nat.add_zero] at this
  · have h6 : (Lit.int .u8 zs[i]).wf = true := h3 _ (List.getElem_mem hi)
    simp only [Lit.wf, Bool.and_eq_true, decide_eq_true_eq] at h6
    have e1 : IntKind.u8.min = 0 := by decide
    have e2 : IntKind.u8.max = 255 := by decide
    omega

/-- run, of a law's own argument -/
theorem run_law {w wi : World} {g : Nat} (k pa cu : ByteArray) (am now j : Int) (r : RS) (ad : Option Addr) (cap : Nat) (zs : List Int) (w1 : World)
    (hw : Rk.RdSl w (Rk.Kn.int Try.underlying5).cells (Rk.Kn.int Try.underlying5).ok 1 ad zs cap) (hbi : Below w.heap.size w wi) (hg : w.heap.size ≤ g)
    (hG : GR wi w.heap.size g nilS nilS r.recs r.late w1) (hj : RB r now j) (hj0 : 0 ≤ j ∧ j ≤ 10000) (hnow : 0 ≤ now ∧ now ≤ 10000) (hl : zs.length ≤ 300) :
    Calls Try.prog 75 #[.pointer (some ⟨g, 0, none⟩), .agg #[.string k, .string pa, .string cu, .int .i64 am, .string r.p.s, .int .i64 r.p.n, .int .i64 r.p.t, .int .i64 r.p.a], .int .i64 now, .slice ad zs.length cap] w1 (RunP wi w.heap.size g nilS nilS k pa cu am now r zs w1) := by
  rcases rd8 hw with rfl | ⟨b, off, rfl, h1, h2⟩
  · exact run_nil wi _ g _ _ k pa cu am now r ad cap w1 hG
  · exact run_any wi _ g _ _ k pa cu am now j r b off cap zs w1 hG (hG.bel hbi hg).size hj hj0 hnow hl h2 (fun w' hF _ i hi => by
      refine pw_cell_below (w := w) ?_ (h1 i hi)
      refine ((Fr.of_below (S := fun k => w.heap.size ≤ k) hbi).trans hF (fun b hb2 hk => ?_)).toBelow (fun b hb2 hk => by omega)
      rcases hk with rfl | hk | hk
      · exact hg
      · cases hk
      · cases hk)

set_option maxRecDepth 100000 in
set_option maxHeartbeats 4000000 in
theorem walk13 (am : Int) (ad : Option Addr) (zs : List Int) (cap : Nat) (w : World) (ha : (Lit.int .u32 am).wf = true) (hw : Rk.RdSl w (Rk.Kn.int Try.underlying5).cells (Rk.Kn.int Try.underlying5).ok 1 ad zs cap) (hy : zs.length * 1 ≤ 140737488351232) :
    Calls Try.prog 13 #[.int .u32 am, .slice ad zs.length cap] w fun e w' => e = .returned (.bool true) ∧ Below w.heap.size w w' := by
  have hl : Hid (∀ w', Below w.heap.size w w' → Calls Try.prog 23 #[] w' fun e w'' => e = .returned (.bool true) ∧ Below w.heap.size w w'') := fun w' hb => (lives17_any w').mono fun e w'' h => ⟨h.1, below_step hb h.2⟩
  have ha2 : 0 ≤ am ∧ am ≤ 4294967295 := by
    simp only [Lit.wf, Bool.and_eq_true, decide_eq_true_eq] at ha
    have e1 : IntKind.u32.min = 0 := by decide
    have e2 : IntKind.u32.max = 4294967295 := by decide
    omega
  clear ha
  by_cases h300 : 300 < zs.length
  · have hgt : decide ((zs.length : Int) > 300) = true := by simp; omega
    clear hw
    go_enter Try.func13, Try.ntmps13
    go_wp2_with (first | (go_at_call 23; refine (hl.out _ (by first | exact Below.refl _ _ | assumption)).mono ?_; rintro e w1 ⟨rfl, hb⟩) | fail)
    go_ret
    exact ⟨rfl, by assumption⟩
  have HW := hidI hw
  clear hw
  go_enter Try.func13, Try.ntmps13
  go_wp2_with (first | (go_at_call 23; refine (hl.out _ (by first | exact Below.refl _ _ | assumption)).mono ?_; rintro e w1 ⟨rfl, hb⟩) | fail)
  refine (run_law bK bAnn bEur am 0 0 r0 ad cap zs _ HW.out (below_new hb _) hb.size (GR.new hb) r0_RB (by omega) (by omega) (by omega)).mono ?_
  rintro e w2 ⟨r, hr, rfl, hG2, hK2⟩
  obtain ⟨rb, _, hJ⟩ := runs_J zs (now := 0) (r0_J am)
  rw [← hr] at hJ
  have hlate : r.late.length ≤ 1200 := by
    have h := (RB.runs (k := bK) (pa := bAnn) (cu := bEur) (am := am) zs r0_RB (by omega)).l2
    rw [← hr] at h
    omega
  obtain ⟨hJ1, hJ2, _⟩ := hJ
  have HJ2 := hidI hJ2
  rw [hJ1] at hG2
  clear hJ1 hJ2 hr
  have hbi := below_new hb (.cells #[.slice none 0 0, .slice none 0 0] 90)
  have hgs := hb.size
  have hG3 := hG2.alloc (.cells #[.string bK, .string bAnn, .string bEur, .int .i64 am, .string r.p.s, .int .i64 r.p.n, .int .i64 r.p.t, .int .i64 r.p.a] 29)
  clear hb hG2 hK2
  go_wp2_with fail
  refine (moved_any _ w.heap.size _ nilS nilS bK _ _ _ hG3 (by cases rb <;> simp [rl]) (fun m _ => mv_bd ha2.1 (by omega) rb m)).mono ?_
  rintro e w3 ⟨s, n, hs, hn, rfl, hb3⟩
  have hG4 := hG3.below hb3
  have hB := Blk.be (Blk.new' (w := w2) (b := w2.heap.size) (cs := #[.string bK, .string bAnn, .string bEur, .int .i64 am, .string r.p.s, .int .i64 r.p.n, .int .i64 r.p.t, .int .i64 r.p.a]) (T := 29) rfl) hb3
  have hc := hB.c; have hl3 := hB.lt
  have hend : Hid (∀ w', Below w3.heap.size w3 w' → Below w.heap.size w w') := fun w' hb' => below_step (hG4.bel hbi hgs) hb'
  have hE := hidI (hend.out _ (Below.refl _ _))
  simp only []
  by_cases hpaid : r.p.s.toList = [112, 97, 105, 100]
  · have hr : rb = some true := by
      rcases HJ2.out with e | e | e | ⟨_, e⟩ | ⟨e, _⟩
      · rw [hpaid] at e; cases e
      · rw [hpaid] at e; cases e
      · rw [hpaid] at e; cases e
      · exact e
      · rw [hpaid] at e; cases e
    subst hr
    obtain ⟨m1, m2⟩ := mv_true (k := bK) (pa := bAnn) (cu := bEur) (am := am)
    rw [m1] at hn
    rw [m2] at hs
    subst hn hs
    clear hG3 hG4 hb3 m1 m2 HW hB HJ2
    go_wp2
    go_ret
    exact ⟨rfl, hE.out⟩
  have hp1 : (r.p.s.toList == [112, 97, 105, 100]) = false := by simpa using hpaid
  by_cases hback : r.p.s.toList = [98, 97, 99, 107]
  · have hr : rb = some false := by
      rcases HJ2.out with e | e | e | ⟨e, _⟩ | ⟨_, e⟩
      · rw [hback] at e; cases e
      · rw [hback] at e; cases e
      · rw [hback] at e; cases e
      · rw [hback] at e; cases e
      · exact e
    subst hr
    clear hpaid hG3 hb3 HW HJ2
    have HB := hidI hback
    have hp2 : (r.p.s.toList == [98, 97, 99, 107]) = true := by simpa using hback
    clear hback hs hn
    go_wp2_with fail
    refine (ask_gr _ w.heap.size _ nilS nilS bK bPay bNil bNil am 0 1 _ _ _ hG4 (hG4.bel hbi hgs).size (by simp [rl]) (by omega) (by decide)).mono ?_
    rintro e w4 ⟨A4, n4, c4, rfl, _, _, hG5, hK5⟩
    have er : tRecs bK bPay bNil bNil am (1 % 8) (rl bK bAnn bEur am (some false)) = rl bK bAnn bEur am (some false) := by
      unfold tRecs; split
      · simp [sRecs, rl, fidx]
      · rfl
    rw [er] at hG5
    generalize tLate bK bPay 0 (1 % 8) (rl bK bAnn bEur am (some false)) r.late = late5 at hG5
    have hB5 := hK5.blk hB (by decide) (by decide) (by decide)
    have hc5 := hB5.c; have hl5 := hB5.lt
    clear hB hc hl3 hG4 hend hE hK5
    go_wp2_with fail
    refine (moved_any _ w.heap.size _ nilS nilS bK _ _ _ hG5 (by simp [rl]) (fun m _ => mv_bd ha2.1 (by omega) (some false) m)).mono ?_
    rintro e w6 ⟨s6, n6, hs6, hn6, rfl, hb6⟩
    obtain ⟨m1, m2⟩ := mv_false (k := bK) (pa := bAnn) (cu := bEur) (am := am)
    rw [m1] at hn6
    rw [m2] at hs6
    subst hn6 hs6
    have hE := hidI (below_step (hG5.bel hbi hgs) hb6)
    clear hG5 hb6 m1 m2 hB5 hc5 hl5 er
    go_wp2
    go_ret
    exact ⟨rfl, hE.out⟩
  · have hp2 : (r.p.s.toList == [98, 97, 99, 107]) = false := by simpa using hback
    clear hpaid hback hG3 hG4 hb3 HW HJ2 hB hend
    cases rb with
    | none =>
      obtain ⟨m1, m2⟩ := mv_none (k := bK) (pa := bAnn) (cu := bEur) (am := am)
      rw [m1] at hn
      rw [m2] at hs
      subst hn hs
      clear m1 m2
      go_wp2
      go_ret
      exact ⟨rfl, hE.out⟩
    | some mv =>
      cases mv
      · obtain ⟨m1, m2⟩ := mv_false (k := bK) (pa := bAnn) (cu := bEur) (am := am)
        rw [m1] at hn
        rw [m2] at hs
        subst hn hs
        clear m1 m2
        go_wp2
        go_ret
        exact ⟨rfl, hE.out⟩
      · obtain ⟨m1, m2⟩ := mv_true (k := bK) (pa := bAnn) (cu := bEur) (am := am)
        rw [m1] at hn
        rw [m2] at hs
        subst hn hs
        clear m1 m2
        go_wp2
        go_ret
        exact ⟨rfl, hE.out⟩
end Go.Proofs.Ytliacfjdenfldaa
