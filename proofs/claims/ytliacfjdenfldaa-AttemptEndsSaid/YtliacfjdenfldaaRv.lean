import Derived.Test.YtliacfjdenfldaaRu
/- The walk of run. -/
namespace Go.Proofs.Ytliacfjdenfldaa
open Go.RowKit Go.Proofs.Kq
open Go.Proofs.YtliacfjdenfldaaW.PrintWords (pw_cell_below step_append_cells print_append_cells Kd Kd.C Kd.C_below)
open Go.Proofs.YtliacfjdenfldaaW.PrintLast
set_option linter.unusedSimpArgs false
set_option linter.unusedVariables false

def pcs (k pa cu : ByteArray) (am : Int) (p : PS) : Array Value := #[.string k, .string pa, .string cu, .int .i64 am, .string p.s, .int .i64 p.n, .int .i64 p.t, .int .i64 p.a]
def zcs : Array Value := #[.string ⟨#[]⟩, .string ⟨#[]⟩, .string ⟨#[]⟩, .int .i64 0, .string ⟨#[]⟩, .int .i64 0, .int .i64 0, .int .i64 0]
theorem Keeps.set {w w1 : World} {N : Nat} (h : Keeps w w1) (hN : w.heap.size ≤ N) (o : Nat) (v : Value) : Keeps w (w1.setCell ⟨N, o, none⟩ v) :=
  ⟨by have := h.1; simpa [World.setCell] using this, fun b cs T hB e1 e2 e3 => (h.2 b cs T hB e1 e2 e3).so (by have := hB.lt; simp; omega)⟩
/-- how a round of run begins -/
structure RI (wi w0 : World) (base g : Nat) (vr0 vl0 : Value) (k pa cu : ByteArray) (am : Int) (N : Nat) (p : PS) (recs : List A98) (late : List A102) (w : World) : Prop where
  gr : GR wi base g vr0 vl0 recs late w
  kp : Keeps w0 w
  b1 : Blk w N (pcs k pa cu am p) 29
  b2 : Blk w (N + 1) zcs 29
section
variable {wi w0 : World} {base g : Nat} {vr0 vl0 : Value} {k pa cu : ByteArray} {am : Int} {N : Nat} {p p' : PS} {recs recs' : List A98} {late late' : List A102} {w w1 : World}
theorem RI.below (h : RI wi w0 base g vr0 vl0 k pa cu am N p recs late w) (hb : Below w.heap.size w w1) : RI wi w0 base g vr0 vl0 k pa cu am N p recs late w1 :=
  ⟨h.gr.below hb, h.kp.trans (Keeps.below hb), h.b1.be hb, h.b2.be hb⟩
theorem RI.alloc (h : RI wi w0 base g vr0 vl0 k pa cu am N p recs late w) (o : Obj) : RI wi w0 base g vr0 vl0 k pa cu am N p recs late (w.alloc o) := h.below (below_new (Below.refl _ _) o)
theorem RI.next (h : RI wi w0 base g vr0 vl0 k pa cu am N p recs late w) (hG : GR wi base g vr0 vl0 recs' late' w1) (hk : Keeps w w1) : RI wi w0 base g vr0 vl0 k pa cu am N p recs' late' w1 :=
  ⟨hG, h.kp.trans hk, hk.blk h.b1 (by decide) (by decide) (by decide), hk.blk h.b2 (by decide) (by decide) (by decide)⟩
theorem GR.put {cs : Array Value} (h : GR wi base g vr0 vl0 recs late w) (hB : Blk w N cs 29) (hk : Keeps w0 w) (hN : wi.heap.size ≤ N) (hN0 : w0.heap.size ≤ N) (o : Nat) (v : Value) : GR wi base g vr0 vl0 recs late (w.setCell ⟨N, o, none⟩ v) ∧ Blk (w.setCell ⟨N, o, none⟩ v) N (cs.setIfInBounds o v) 29 ∧ Keeps w0 (w.setCell ⟨N, o, none⟩ v) ∧ ∀ b cs' T, N ≠ b → Blk w b cs' T → Blk (w.setCell ⟨N, o, none⟩ v) b cs' T :=
  ⟨h.set hB (by decide) (by decide) (by decide) hN o v, hB.st o v, hk.set hN0 o v, fun b cs' T hne hb => hb.so (Ne.symm hne)⟩
theorem pcs_put (p p' : PS) : ((((((((pcs k pa cu am p).setIfInBounds 0 (.string k)).setIfInBounds 1 (.string pa)).setIfInBounds 2 (.string cu)).setIfInBounds 3 (.int .i64 am)).setIfInBounds 4 (.string p'.s)).setIfInBounds 5 (.int .i64 p'.n)).setIfInBounds 6 (.int .i64 p'.t)).setIfInBounds 7 (.int .i64 p'.a) = pcs k pa cu am p' := by
  simp [pcs]
theorem zcs_put (p' : PS) : ((((((((zcs).setIfInBounds 0 (.string k)).setIfInBounds 1 (.string pa)).setIfInBounds 2 (.string cu)).setIfInBounds 3 (.int .i64 am)).setIfInBounds 4 (.string p'.s)).setIfInBounds 5 (.int .i64 p'.n)).setIfInBounds 6 (.int .i64 p'.t)).setIfInBounds 7 (.int .i64 p'.a) = pcs k pa cu am p' := by
  simp [pcs, zcs]
theorem GR.puts {cs : Array Value} (hg : GR wi base g vr0 vl0 recs late w) (hb : Blk w N cs 29) (hk : Keeps w0 w) (hN : wi.heap.size ≤ N) (hN0 : w0.heap.size ≤ N) (p' : PS)
    (e : ((((((((cs).setIfInBounds 0 (.string k)).setIfInBounds 1 (.string pa)).setIfInBounds 2 (.string cu)).setIfInBounds 3 (.int .i64 am)).setIfInBounds 4 (.string p'.s)).setIfInBounds 5 (.int .i64 p'.n)).setIfInBounds 6 (.int .i64 p'.t)).setIfInBounds 7 (.int .i64 p'.a) = pcs k pa cu am p') :
    GR wi base g vr0 vl0 recs late ((((((((w.setCell ⟨N, 0, none⟩ (.string k)).setCell ⟨N, 1, none⟩ (.string pa)).setCell ⟨N, 2, none⟩ (.string cu)).setCell ⟨N, 3, none⟩ (.int .i64 am)).setCell ⟨N, 4, none⟩ (.string p'.s)).setCell ⟨N, 5, none⟩ (.int .i64 p'.n)).setCell ⟨N, 6, none⟩ (.int .i64 p'.t)).setCell ⟨N, 7, none⟩ (.int .i64 p'.a)) ∧
    Blk ((((((((w.setCell ⟨N, 0, none⟩ (.string k)).setCell ⟨N, 1, none⟩ (.string pa)).setCell ⟨N, 2, none⟩ (.string cu)).setCell ⟨N, 3, none⟩ (.int .i64 am)).setCell ⟨N, 4, none⟩ (.string p'.s)).setCell ⟨N, 5, none⟩ (.int .i64 p'.n)).setCell ⟨N, 6, none⟩ (.int .i64 p'.t)).setCell ⟨N, 7, none⟩ (.int .i64 p'.a)) N (pcs k pa cu am p') 29 ∧
    Keeps w0 ((((((((w.setCell ⟨N, 0, none⟩ (.string k)).setCell ⟨N, 1, none⟩ (.string pa)).setCell ⟨N, 2, none⟩ (.string cu)).setCell ⟨N, 3, none⟩ (.int .i64 am)).setCell ⟨N, 4, none⟩ (.string p'.s)).setCell ⟨N, 5, none⟩ (.int .i64 p'.n)).setCell ⟨N, 6, none⟩ (.int .i64 p'.t)).setCell ⟨N, 7, none⟩ (.int .i64 p'.a)) ∧
    ∀ b cs' T, N ≠ b → Blk w b cs' T → Blk ((((((((w.setCell ⟨N, 0, none⟩ (.string k)).setCell ⟨N, 1, none⟩ (.string pa)).setCell ⟨N, 2, none⟩ (.string cu)).setCell ⟨N, 3, none⟩ (.int .i64 am)).setCell ⟨N, 4, none⟩ (.string p'.s)).setCell ⟨N, 5, none⟩ (.int .i64 p'.n)).setCell ⟨N, 6, none⟩ (.int .i64 p'.t)).setCell ⟨N, 7, none⟩ (.int .i64 p'.a)) b cs' T := by
  obtain ⟨g1, b1, h1, k1⟩ := hg.put hb hk hN hN0 0 (.string k)
  obtain ⟨g2, b2, h2, k2⟩ := g1.put b1 h1 hN hN0 1 (.string pa)
  obtain ⟨g3, b3, h3, k3⟩ := g2.put b2 h2 hN hN0 2 (.string cu)
  obtain ⟨g4, b4, h4, k4⟩ := g3.put b3 h3 hN hN0 3 (.int .i64 am)
  obtain ⟨g5, b5, h5, k5⟩ := g4.put b4 h4 hN hN0 4 (.string p'.s)
  obtain ⟨g6, b6, h6, k6⟩ := g5.put b5 h5 hN hN0 5 (.int .i64 p'.n)
  obtain ⟨g7, b7, h7, k7⟩ := g6.put b6 h6 hN hN0 6 (.int .i64 p'.t)
  obtain ⟨g8, b8, h8, k8⟩ := g7.put b7 h7 hN hN0 7 (.int .i64 p'.a)
  exact ⟨g8, b8.of e, h8, fun b cs' T hne hx => k8 _ _ _ hne (k7 _ _ _ hne (k6 _ _ _ hne (k5 _ _ _ hne (k4 _ _ _ hne (k3 _ _ _ hne (k2 _ _ _ hne (k1 _ _ _ hne hx)))))))⟩
theorem RI.put (h : RI wi w0 base g vr0 vl0 k pa cu am N p recs late w) (hN : wi.heap.size ≤ N) (hN0 : w0.heap.size ≤ N) (p' : PS) :
    RI wi w0 base g vr0 vl0 k pa cu am N p' recs late ((((((((w.setCell ⟨N, 0, none⟩ (.string k)).setCell ⟨N, 1, none⟩ (.string pa)).setCell ⟨N, 2, none⟩ (.string cu)).setCell ⟨N, 3, none⟩ (.int .i64 am)).setCell ⟨N, 4, none⟩ (.string p'.s)).setCell ⟨N, 5, none⟩ (.int .i64 p'.n)).setCell ⟨N, 6, none⟩ (.int .i64 p'.t)).setCell ⟨N, 7, none⟩ (.int .i64 p'.a)) := by
  obtain ⟨h1, h2, h3, h4⟩ := h.gr.puts h.b1 h.kp hN hN0 p' (pcs_put p p')
  exact ⟨h1, h3, h2, h4 _ _ _ (by omega) h.b2⟩
end
theorem res75 {wf : World} {N : Nat} {k pa cu : ByteArray} {am : Int} {p : PS} {t : Array Value} (h : Blk wf N (pcs k pa cu am p) 29) (h8 : t[8]? = some (.pointer (some ⟨N, 0, none⟩))) : (results Try.f75 t).run Try.prog wf = .ok (.agg #[.string k, .string pa, .string cu, .int .i64 am, .string p.s, .int .i64 p.n, .int .i64 p.t, .int .i64 p.a]) wf := by
  have c := h.c; have l := h.lt
  simp only [pcs] at c
  simp [results, Try.results75, go_sem, c, l, h8]
def RunP (wi : World) (base g : Nat) (vr0 vl0 : Value) (k pa cu : ByteArray) (am now : Int) (r : RS) (zs : List Int) (w : World) (e : Ending) (w' : World) : Prop :=
  ∃ r', r' = runs k pa cu am now r zs ∧ e = .returned (.agg #[.string k, .string pa, .string cu, .int .i64 am, .string r'.p.s, .int .i64 r'.p.n, .int .i64 r'.p.t, .int .i64 r'.p.a]) ∧
    GR wi base g vr0 vl0 r'.recs r'.late w' ∧ Keeps w w'

set_option maxRecDepth 100000 in
set_option maxHeartbeats 4000000 in
theorem run_any (wi : World) (base g : Nat) (vr0 vl0 : Value) (k pa cu : ByteArray) (am now j : Int) (r : RS) (b off cap : Nat) (zs : List Int) (w : World)
    (hG : GR wi base g vr0 vl0 r.recs r.late w) (hb : base ≤ w.heap.size) (hj : RB r now j) (hj0 : 0 ≤ j ∧ j ≤ 10000) (hnow : 0 ≤ now ∧ now ≤ 10000) (hl : zs.length ≤ 300)
    (hz : ∀ i (h : i < zs.length), 0 ≤ zs[i] ∧ zs[i] < 256)
    (hc : ∀ w', Fr (GS g vr0 vl0) wi w' → Keeps w w' → ∀ i (h : i < zs.length), w'.cell? ⟨b, off + i, none⟩ = some (.int .u8 zs[i])) :
    Calls Try.prog 75 #[.pointer (some ⟨g, 0, none⟩), .agg #[.string k, .string pa, .string cu, .int .i64 am, .string r.p.s, .int .i64 r.p.n, .int .i64 r.p.t, .int .i64 r.p.a], .int .i64 now, .slice (some ⟨b, off, none⟩) zs.length cap] w (RunP wi base g vr0 vl0 k pa cu am now r zs w) := by
  have hN : wi.heap.size ≤ w.heap.size := hG.fr.size
  have HC := hidI hc
  have HZ := hidI hz
  have HJ := hidI hj
  have HG := hidI hG
  clear hc hz hj hG
  go_enter Try.func75, Try.ntmps75
  go_wp2_with fail
  have hR0 : RI wi w base g vr0 vl0 k pa cu am w.heap.size r.p r.recs r.late ((w.alloc (.cells (pcs k pa cu am r.p) 29)).alloc (.cells zcs 29)) :=
    ⟨(HG.out.alloc _).alloc _, Keeps.below (below_new (below_new (Below.refl _ _) _) _), (Blk.new' rfl).al _, Blk.new' (by simp)⟩
  go_loopw [21] (fun i wr => ∃ m : Nat, m ≤ zs.length ∧ i = .int .i64 m ∧ Hid (RI wi w base g vr0 vl0 k pa cu am w.heap.size (runs k pa cu am now r (zs.take m)).p (runs k pa cu am now r (zs.take m)).recs (runs k pa cu am now r (zs.take m)).late wr)) (fun i _ => zs.length - (intOf i).toNat)
  case atStart => exact ⟨0, Nat.zero_le _, rfl, hidI hR0⟩
  case round =>
    obtain ⟨m, hm, rfl, hRK⟩ := hrel
    clear hR0
    by_cases hlt : m < zs.length
    · obtain ⟨q, hq⟩ : ∃ q, q = runs k pa cu am now r (zs.take m) := ⟨_, rfl⟩
      have hRB : RB q (now + m) (j + 4 * m) := by
        have h := RB.runs (k := k) (pa := pa) (cu := cu) (am := am) (zs.take m) HJ.out hnow.1
        rw [← hq, List.length_take, Nat.min_eq_left hm] at h
        exact h
      rw [← hq] at hRK
      have hR := hRK.out
      obtain ⟨c, hce⟩ : ∃ c, c = zs[m] := ⟨_, rfl⟩
      have hc8 : 0 ≤ c ∧ c < 256 := by rw [hce]; exact HZ.out m hlt
      have q0 : wr.cell? ⟨b, off + m, none⟩ = some (.int .u8 c) := by rw [hce]; exact HC.out wr hR.gr.fr hR.kp m hlt
      have hnext : Hid (runs k pa cu am now r (zs.take (m + 1)) = rnd k pa cu am q c (now + m)) := by
        show _ = _
        rw [List.take_succ_eq_append_getElem hlt, runs_snoc, ← hq, ← hce, List.length_take, Nat.min_eq_left hm]
      clear hRK hq hce
      have e1 := hRB.pb
      have e2 := hRB.l1
      have e3 := hRB.l2
      have e4 := lLate_len (c / 8 % 4) q.late
      obtain ⟨x, hx⟩ : ∃ x, x = lX (c / 8 % 4) q.late := ⟨_, rfl⟩
      obtain ⟨late', hlate'⟩ : ∃ l, l = lLate (c / 8 % 4) q.late := ⟨_, rfl⟩
      have HX := hidI hx
      have HL := hidI hlate'
      have hp1 : Hid (∀ is : Bool, lIs (c / 8 % 4) q.late = is → rLP q c (now + m) = if (is && decide (128 ≤ c)) = true then q.p.hear x.f1 x.f2 (now + m) else q.p) := by
        intro is h; rw [hx]; unfold rLP; rw [h]
      rw [← hlate'] at e4
      clear hx hlate'
      go_wp2_with fail
      refine (late_gr wi base g vr0 vl0 (c / 8 % 4) q.recs q.late _ hR.gr (by have := hR.kp.1; omega) (by omega)).mono ?_
      rintro e w1 ⟨rfl, hG1, hK1⟩
      rw [← HX.out]
      rw [← HL.out] at hG1
      have hR2 := (hR.next hG1 hK1).alloc (.cells #[.string x.f0, .string x.f1, .int .i64 x.f2] 102)
      have hB2 := Blk.new' (w := w1) (b := w1.heap.size) (cs := #[.string x.f0, .string x.f1, .int .i64 x.f2]) (T := 102) rfl
      have hc2 := hR2.b1.c; have hl2 := hR2.b1.lt; have hf2 := hR2.b1.f
      simp only [pcs] at hc2
      have hPB := PB.rLP (c := c) e1 (by omega)
      clear hR hG1 hK1 hRB
      cases hI : lIs (c / 8 % 4) q.late
      · have hp := hp1.out _ hI
        simp only [Bool.false_and, Bool.false_eq_true, if_false] at hp
        rw [hp] at hPB
        have HP := hidI hp
        clear hp hp1 e1
        cases hgo : stGo q.p.s q.p.n (now + m)
        · have hnx : Hid (rnd k pa cu am q c (now + m) = ⟨q.p, q.recs, late'⟩) := by
            show _ = _
            unfold rnd rStep; rw [HP.out, hgo, ← HL.out]; rfl
          go_wp2_with fail
          refine (step_no k pa cu am q.p (now + m) _ hgo ?_ ?_ ?_ ?_).mono ?_
          · have := hPB.n0; have := hPB.n1; omega
          · have := hPB.t0; have := hPB.t1; omega
          · have := hPB.a0; have := hPB.a1; omega
          · omega
          rintro e w3 ⟨rfl, hb3⟩
          have hR3 := hR2.below hb3
          have hc3 := hR3.b1.c; have hl3 := hR3.b1.lt; have hf3 := hR3.b1.f
          simp only [pcs] at hc3
          have hfin := hidI (((hR3.put hN (Nat.le_refl _) q.p).alloc (.cells #[.string k, .string pa, .string cu, .int .i64 am, .string q.p.s, .int .i64 q.p.n, .int .i64 q.p.t, .int .i64 q.p.a] 29)).alloc (.cells #[.string ⟨#[]⟩, .string ⟨#[]⟩, .string ⟨#[]⟩, .string ⟨#[]⟩, .int .i64 0, .int .i64 0] 34))
          clear hb3 hR2 hc2 hl2 hf2 hR3 hgo
          go_wp2
          go_roundw
          case rel => exact ⟨m + 1, by omega, by go_num, hidI (by rw [hnext.out, hnx.out]; exact hfin.out)⟩
          case measure => simp [intOf]; omega
        · go_wp2_with fail
          refine (step_go k pa cu am q.p (now + m) _ hgo ?_ ?_ ?_ ?_).mono ?_
          · have := hPB.n0; have := hPB.n1; omega
          · have := hPB.t0; have := hPB.t1; omega
          · have := hPB.a0; have := hPB.a1; omega
          · omega
          rintro e w3 ⟨p2, kd, hp2, hkd, rfl, hb3⟩
          have hPB2 : PB p2 (now + m) (j + 4 * m + 2) := by rw [hp2]; exact (hPB.step (by omega)).mono (Int.le_refl _) (by omega)
          have hnx : Hid (rnd k pa cu am q c (now + m) = ⟨hears p2 (tTold k kd (q.p.a + 1) (c % 8) q.recs) (now + m), tRecs k kd pa cu am (c % 8) q.recs, tLate k kd (q.p.a + 1) (c % 8) q.recs late'⟩) := by
            show _ = _
            unfold rnd rStep; rw [HP.out, hgo, ← HL.out, hp2, hkd ]; rfl
          have hR3 := hR2.below hb3
          have hc3 := hR3.b1.c; have hl3 := hR3.b1.lt; have hf3 := hR3.b1.f
          simp only [pcs] at hc3
          have hA := ((hR3.put hN (Nat.le_refl _) p2).alloc (.cells #[.string k, .string pa, .string cu, .int .i64 am, .string p2.s, .int .i64 p2.n, .int .i64 p2.t, .int .i64 p2.a] 29)).alloc (.cells #[.string kd, .string k, .string pa, .string cu, .int .i64 am, .int .i64 (q.p.a + 1)] 34)
          have hcA := hA.b1.c
          have hpa1 : q.p.a + 1 ≤ 1000000 ∧ 0 ≤ q.p.a + 1 := by have := hPB.a0; have := hPB.a1; omega
          simp only [pcs] at hcA
          clear hb3 hR2 hc2 hl2 hf2 hR3 hgo hp2 hkd hPB
          go_wp2_with fail
          refine (ask_gr wi base g vr0 vl0 k kd pa cu am (q.p.a + 1) c q.recs late' _ hA.gr (by have := hA.kp.1; omega) (by omega) (by omega) hc8).mono ?_
          rintro e w4 ⟨A, n, cc, rfl, hn, hO, hG4, hK4⟩
          have hR4 := hA.next hG4 hK4
          obtain ⟨B4, hO4⟩ : ∃ B4, Own A102.l 3 102 w4 B4 (.slice A n cc) (tTold k kd (q.p.a + 1) (c % 8) q.recs) := ⟨_, hO⟩
          have ht2 := told2 k kd (q.p.a + 1) (c % 8) q.recs
          clear hO hG4 hK4 hA hcA hc3 hl3 hf3 hB2
          generalize tTold k kd (q.p.a + 1) (c % 8) q.recs = told at *
          generalize tRecs k kd pa cu am (c % 8) q.recs = recs4 at *
          generalize tLate k kd (q.p.a + 1) (c % 8) q.recs late' = late4 at *
          subst hn
          simp only []
          go_wp2
          go_loopw [68] (fun i wr2 => ∃ m2 : Nat, m2 ≤ told.length ∧ i = .int .i64 m2 ∧ Hid (RI wi w base g vr0 vl0 k pa cu am w.heap.size (hears p2 (told.take m2) (now + m)) recs4 late4 wr2 ∧ Own A102.l 3 102 wr2 B4 (.slice A told.length cc) told)) (fun i _ => told.length - (intOf i).toNat)
          case atStart => exact ⟨0, Nat.zero_le _, rfl, hidI ⟨hR4, hO4⟩⟩
          case round =>
            obtain ⟨m2, hm2, rfl, hRO⟩ := hrel
            clear hR4 hO4
            by_cases hlt2 : m2 < told.length
            · obtain ⟨hR5, hO5⟩ := hRO.out
              obtain ⟨A', c', hv, _, hD5⟩ := own102 hO5
              obtain rfl : A = A' := by injection hv
              obtain ⟨b3, off3, rfl, hx3⟩ := Kp.C_open hD5 (by omega) (by decide)
              obtain ⟨z, hze⟩ : ∃ z, z = told[m2] := ⟨_, rfl⟩
              have q0 : wr.cell? ⟨b3, off3 + m2 * 3, none⟩ = some (.string z.f0) := by rw [hze]; exact hx3 m2 hlt2 0 _ rfl
              have q1 : wr.cell? ⟨b3, off3 + m2 * 3 + 1, none⟩ = some (.string z.f1) := by rw [hze]; exact hx3 m2 hlt2 1 _ rfl
              have q2 : wr.cell? ⟨b3, off3 + m2 * 3 + 2, none⟩ = some (.int .i64 z.f2) := by rw [hze]; exact hx3 m2 hlt2 2 _ rfl
              have HZE := hidI hze
              have hPB5 : PB (hears p2 (told.take m2) (now + m)) (now + m) (j + 4 * m + 4) := (PB.hears (by omega) (told.take m2) hPB2).mono (Int.le_refl _) (by rw [List.length_take]; omega)
              obtain ⟨p5, hp5⟩ : ∃ p5, p5 = hears p2 (told.take m2) (now + m) := ⟨_, rfl⟩
              rw [← hp5] at hR5 hPB5
              have HP5 := hidI hp5
              have hc5 := hR5.b1.c; have hl5 := hR5.b1.lt; have hf5 := hR5.b1.f
              simp only [pcs] at hc5
              clear hx3 hze hD5 hv hRO hp5
              go_wp2_with fail
              refine (hear_ps k pa cu am p5 z.f1 z.f2 (now + m) _ ?_ ?_).mono ?_
              · have := hPB5.t0; have := hPB5.t1; omega
              · omega
              rintro e w6 ⟨p6, bb6, hp6, rfl, hb6⟩
              have HP6 := hidI hp6
              have hR6 := (hR5.alloc (.cells #[.string z.f0, .string z.f1, .int .i64 z.f2] 102)).below hb6
              have hO6 := (hO5.alloc (.cells #[.string z.f0, .string z.f1, .int .i64 z.f2] 102)).below hb6
              have nb := own_nb hO6 hR6.b1 (by decide)
              have hc6 := hR6.b1.c; have hl6 := hR6.b1.lt; have hf6 := hR6.b1.f
              simp only [pcs] at hc6
              have hfin := hidI (And.intro (hR6.put hN (Nat.le_refl _) p6) ((((((((hO6.far (p := ⟨w.heap.size, 0, none⟩) nb (.string k)).far (p := ⟨w.heap.size, 1, none⟩) nb (.string pa)).far (p := ⟨w.heap.size, 2, none⟩) nb (.string cu)).far (p := ⟨w.heap.size, 3, none⟩) nb (.int .i64 am)).far (p := ⟨w.heap.size, 4, none⟩) nb (.string p6.s)).far (p := ⟨w.heap.size, 5, none⟩) nb (.int .i64 p6.n)).far (p := ⟨w.heap.size, 6, none⟩) nb (.int .i64 p6.t)).far (p := ⟨w.heap.size, 7, none⟩) nb (.int .i64 p6.a)))
              have hst : Hid (hears p2 (told.take (m2 + 1)) (now + m) = p6) := by
                show _ = _
                rw [List.take_succ_eq_append_getElem hlt2, hears_snoc, hp6, HP5.out, HZE.out]
              clear hb6 hR6 hO6 nb hR5 hO5 q0 q1 q2 hp6 hc5 hl5 hf5
              go_wp2
              go_roundw
              case rel => exact ⟨m2 + 1, by omega, by go_num, hidI (by rw [hst.out]; exact hfin.out)⟩
              case measure => simp [intOf]; omega
            · have e : m2 = told.length := by omega
              subst e
              obtain ⟨hR5, hO5⟩ := hRO.out
              rw [List.take_length] at hR5
              have hfin := hidI hR5
              clear hR5 hO5 hRO
              go_wp2
              go_roundw
              case rel => exact ⟨m + 1, by omega, by go_num, hidI (by rw [hnext.out, hnx.out]; exact hfin.out)⟩
              case measure => simp [intOf]; omega
      · by_cases h128 : 128 ≤ c
        · have hp := hp1.out _ hI
          simp only [h128, decide_true, Bool.and_self, if_true] at hp
          rw [hp] at hPB
          have HP := hidI hp
          clear hp hp1
          go_wp2_with fail
          refine (hear_ps k pa cu am q.p x.f1 x.f2 (now + m) _ ?_ ?_).mono ?_
          · have := e1.t0; have := e1.t1; omega
          · omega
          rintro e w9 ⟨p1, bb, hp1, rfl, hb9⟩
          rw [← hp1] at hPB
          have HP1 := hidI hp1
          clear hp1 e1
          have hR9 := hR2.below hb9
          have hc9 := hR9.b1.c; have hl9 := hR9.b1.lt; have hf9 := hR9.b1.f
          simp only [pcs] at hc9
          have hR2 := hR9.put hN (Nat.le_refl _) p1
          clear hb9 hB2 hc2 hl2 hf2
          have hc2 := hR2.b1.c; have hl2 := hR2.b1.lt; have hf2 := hR2.b1.f
          simp only [pcs] at hc2
          cases hgo : stGo p1.s p1.n (now + m)
          · have hnx : Hid (rnd k pa cu am q c (now + m) = ⟨p1, q.recs, late'⟩) := by
              show _ = _
              unfold rnd rStep; rw [HP.out, ← HP1.out, hgo, ← HL.out]; rfl
            go_wp2_with fail
            refine (step_no k pa cu am p1 (now + m) _ hgo ?_ ?_ ?_ ?_).mono ?_
            · have := hPB.n0; have := hPB.n1; omega
            · have := hPB.t0; have := hPB.t1; omega
            · have := hPB.a0; have := hPB.a1; omega
            · omega
            rintro e w3 ⟨rfl, hb3⟩
            have hR3 := hR2.below hb3
            have hc3 := hR3.b1.c; have hl3 := hR3.b1.lt; have hf3 := hR3.b1.f
            simp only [pcs] at hc3
            have hfin := hidI (((hR3.put hN (Nat.le_refl _) p1).alloc (.cells #[.string k, .string pa, .string cu, .int .i64 am, .string p1.s, .int .i64 p1.n, .int .i64 p1.t, .int .i64 p1.a] 29)).alloc (.cells #[.string ⟨#[]⟩, .string ⟨#[]⟩, .string ⟨#[]⟩, .string ⟨#[]⟩, .int .i64 0, .int .i64 0] 34))
            clear hb3 hR2 hc2 hl2 hf2 hR3 hgo
            go_wp2
            go_roundw
            case rel => exact ⟨m + 1, by omega, by go_num, hidI (by rw [hnext.out, hnx.out]; exact hfin.out)⟩
            case measure => simp [intOf]; omega
          · go_wp2_with fail
            refine (step_go k pa cu am p1 (now + m) _ hgo ?_ ?_ ?_ ?_).mono ?_
            · have := hPB.n0; have := hPB.n1; omega
            · have := hPB.t0; have := hPB.t1; omega
            · have := hPB.a0; have := hPB.a1; omega
            · omega
            rintro e w3 ⟨p2, kd, hp2, hkd, rfl, hb3⟩
            have hPB2 : PB p2 (now + m) (j + 4 * m + 2) := by rw [hp2]; exact (hPB.step (by omega)).mono (Int.le_refl _) (by omega)
            have hnx : Hid (rnd k pa cu am q c (now + m) = ⟨hears p2 (tTold k kd (p1.a + 1) (c % 8) q.recs) (now + m), tRecs k kd pa cu am (c % 8) q.recs, tLate k kd (p1.a + 1) (c % 8) q.recs late'⟩) := by
              show _ = _
              unfold rnd rStep; rw [HP.out, ← HP1.out, hgo, ← HL.out, hp2, hkd ]; rfl
            have hR3 := hR2.below hb3
            have hc3 := hR3.b1.c; have hl3 := hR3.b1.lt; have hf3 := hR3.b1.f
            simp only [pcs] at hc3
            have hA := ((hR3.put hN (Nat.le_refl _) p2).alloc (.cells #[.string k, .string pa, .string cu, .int .i64 am, .string p2.s, .int .i64 p2.n, .int .i64 p2.t, .int .i64 p2.a] 29)).alloc (.cells #[.string kd, .string k, .string pa, .string cu, .int .i64 am, .int .i64 (p1.a + 1)] 34)
            have hcA := hA.b1.c
            have hpa1 : p1.a + 1 ≤ 1000000 ∧ 0 ≤ p1.a + 1 := by have := hPB.a0; have := hPB.a1; omega
            simp only [pcs] at hcA
            clear hb3 hR2 hc2 hl2 hf2 hR3 hgo hp2 hkd hPB
            go_wp2_with fail
            refine (ask_gr wi base g vr0 vl0 k kd pa cu am (p1.a + 1) c q.recs late' _ hA.gr (by have := hA.kp.1; omega) (by omega) (by omega) hc8).mono ?_
            rintro e w4 ⟨A, n, cc, rfl, hn, hO, hG4, hK4⟩
            have hR4 := hA.next hG4 hK4
            obtain ⟨B4, hO4⟩ : ∃ B4, Own A102.l 3 102 w4 B4 (.slice A n cc) (tTold k kd (p1.a + 1) (c % 8) q.recs) := ⟨_, hO⟩
            have ht2 := told2 k kd (p1.a + 1) (c % 8) q.recs
            clear hO hG4 hK4 hA hcA hc3 hl3 hf3 hR9 hc9 hl9 hf9
            generalize tTold k kd (p1.a + 1) (c % 8) q.recs = told at *
            generalize tRecs k kd pa cu am (c % 8) q.recs = recs4 at *
            generalize tLate k kd (p1.a + 1) (c % 8) q.recs late' = late4 at *
            subst hn
            simp only []
            go_wp2
            go_loopw [68] (fun i wr2 => ∃ m2 : Nat, m2 ≤ told.length ∧ i = .int .i64 m2 ∧ Hid (RI wi w base g vr0 vl0 k pa cu am w.heap.size (hears p2 (told.take m2) (now + m)) recs4 late4 wr2 ∧ Own A102.l 3 102 wr2 B4 (.slice A told.length cc) told)) (fun i _ => told.length - (intOf i).toNat)
            case atStart => exact ⟨0, Nat.zero_le _, rfl, hidI ⟨hR4, hO4⟩⟩
            case round =>
              obtain ⟨m2, hm2, rfl, hRO⟩ := hrel
              clear hR4 hO4
              by_cases hlt2 : m2 < told.length
              · obtain ⟨hR5, hO5⟩ := hRO.out
                obtain ⟨A', c', hv, _, hD5⟩ := own102 hO5
                obtain rfl : A = A' := by injection hv
                obtain ⟨b3, off3, rfl, hx3⟩ := Kp.C_open hD5 (by omega) (by decide)
                obtain ⟨z, hze⟩ : ∃ z, z = told[m2] := ⟨_, rfl⟩
                have q0 : wr.cell? ⟨b3, off3 + m2 * 3, none⟩ = some (.string z.f0) := by rw [hze]; exact hx3 m2 hlt2 0 _ rfl
                have q1 : wr.cell? ⟨b3, off3 + m2 * 3 + 1, none⟩ = some (.string z.f1) := by rw [hze]; exact hx3 m2 hlt2 1 _ rfl
                have q2 : wr.cell? ⟨b3, off3 + m2 * 3 + 2, none⟩ = some (.int .i64 z.f2) := by rw [hze]; exact hx3 m2 hlt2 2 _ rfl
                have HZE := hidI hze
                have hPB5 : PB (hears p2 (told.take m2) (now + m)) (now + m) (j + 4 * m + 4) := (PB.hears (by omega) (told.take m2) hPB2).mono (Int.le_refl _) (by rw [List.length_take]; omega)
                obtain ⟨p5, hp5⟩ : ∃ p5, p5 = hears p2 (told.take m2) (now + m) := ⟨_, rfl⟩
                rw [← hp5] at hR5 hPB5
                have HP5 := hidI hp5
                have hc5 := hR5.b1.c; have hl5 := hR5.b1.lt; have hf5 := hR5.b1.f
                simp only [pcs] at hc5
                clear hx3 hze hD5 hv hRO hp5
                go_wp2_with fail
                refine (hear_ps k pa cu am p5 z.f1 z.f2 (now + m) _ ?_ ?_).mono ?_
                · have := hPB5.t0; have := hPB5.t1; omega
                · omega
                rintro e w6 ⟨p6, bb6, hp6, rfl, hb6⟩
                have HP6 := hidI hp6
                have hR6 := (hR5.alloc (.cells #[.string z.f0, .string z.f1, .int .i64 z.f2] 102)).below hb6
                have hO6 := (hO5.alloc (.cells #[.string z.f0, .string z.f1, .int .i64 z.f2] 102)).below hb6
                have nb := own_nb hO6 hR6.b1 (by decide)
                have hc6 := hR6.b1.c; have hl6 := hR6.b1.lt; have hf6 := hR6.b1.f
                simp only [pcs] at hc6
                have hfin := hidI (And.intro (hR6.put hN (Nat.le_refl _) p6) ((((((((hO6.far (p := ⟨w.heap.size, 0, none⟩) nb (.string k)).far (p := ⟨w.heap.size, 1, none⟩) nb (.string pa)).far (p := ⟨w.heap.size, 2, none⟩) nb (.string cu)).far (p := ⟨w.heap.size, 3, none⟩) nb (.int .i64 am)).far (p := ⟨w.heap.size, 4, none⟩) nb (.string p6.s)).far (p := ⟨w.heap.size, 5, none⟩) nb (.int .i64 p6.n)).far (p := ⟨w.heap.size, 6, none⟩) nb (.int .i64 p6.t)).far (p := ⟨w.heap.size, 7, none⟩) nb (.int .i64 p6.a)))
                have hst : Hid (hears p2 (told.take (m2 + 1)) (now + m) = p6) := by
                  show _ = _
                  rw [List.take_succ_eq_append_getElem hlt2, hears_snoc, hp6, HP5.out, HZE.out]
                clear hb6 hR6 hO6 nb hR5 hO5 q0 q1 q2 hp6 hc5 hl5 hf5
                go_wp2
                go_roundw
                case rel => exact ⟨m2 + 1, by omega, by go_num, hidI (by rw [hst.out]; exact hfin.out)⟩
                case measure => simp [intOf]; omega
              · have e : m2 = told.length := by omega
                subst e
                obtain ⟨hR5, hO5⟩ := hRO.out
                rw [List.take_length] at hR5
                have hfin := hidI hR5
                clear hR5 hO5 hRO
                go_wp2
                go_roundw
                case rel => exact ⟨m + 1, by omega, by go_num, hidI (by rw [hnext.out, hnx.out]; exact hfin.out)⟩
                case measure => simp [intOf]; omega
        · have hp := hp1.out _ hI
          simp only [h128, decide_false, Bool.and_false, Bool.false_eq_true, if_false] at hp
          rw [hp] at hPB
          have HP := hidI hp
          clear hp hp1 e1
          cases hgo : stGo q.p.s q.p.n (now + m)
          · have hnx : Hid (rnd k pa cu am q c (now + m) = ⟨q.p, q.recs, late'⟩) := by
              show _ = _
              unfold rnd rStep; rw [HP.out, hgo, ← HL.out]; rfl
            go_wp2_with fail
            refine (step_no k pa cu am q.p (now + m) _ hgo ?_ ?_ ?_ ?_).mono ?_
            · have := hPB.n0; have := hPB.n1; omega
            · have := hPB.t0; have := hPB.t1; omega
            · have := hPB.a0; have := hPB.a1; omega
            · omega
            rintro e w3 ⟨rfl, hb3⟩
            have hR3 := hR2.below hb3
            have hc3 := hR3.b1.c; have hl3 := hR3.b1.lt; have hf3 := hR3.b1.f
            simp only [pcs] at hc3
            have hfin := hidI (((hR3.put hN (Nat.le_refl _) q.p).alloc (.cells #[.string k, .string pa, .string cu, .int .i64 am, .string q.p.s, .int .i64 q.p.n, .int .i64 q.p.t, .int .i64 q.p.a] 29)).alloc (.cells #[.string ⟨#[]⟩, .string ⟨#[]⟩, .string ⟨#[]⟩, .string ⟨#[]⟩, .int .i64 0, .int .i64 0] 34))
            clear hb3 hR2 hc2 hl2 hf2 hR3 hgo
            go_wp2
            go_roundw
            case rel => exact ⟨m + 1, by omega, by go_num, hidI (by rw [hnext.out, hnx.out]; exact hfin.out)⟩
            case measure => simp [intOf]; omega
          · go_wp2_with fail
            refine (step_go k pa cu am q.p (now + m) _ hgo ?_ ?_ ?_ ?_).mono ?_
            · have := hPB.n0; have := hPB.n1; omega
            · have := hPB.t0; have := hPB.t1; omega
            · have := hPB.a0; have := hPB.a1; omega
            · omega
            rintro e w3 ⟨p2, kd, hp2, hkd, rfl, hb3⟩
            have hPB2 : PB p2 (now + m) (j + 4 * m + 2) := by rw [hp2]; exact (hPB.step (by omega)).mono (Int.le_refl _) (by omega)
            have hnx : Hid (rnd k pa cu am q c (now + m) = ⟨hears p2 (tTold k kd (q.p.a + 1) (c % 8) q.recs) (now + m), tRecs k kd pa cu am (c % 8) q.recs, tLate k kd (q.p.a + 1) (c % 8) q.recs late'⟩) := by
              show _ = _
              unfold rnd rStep; rw [HP.out, hgo, ← HL.out, hp2, hkd ]; rfl
            have hR3 := hR2.below hb3
            have hc3 := hR3.b1.c; have hl3 := hR3.b1.lt; have hf3 := hR3.b1.f
            simp only [pcs] at hc3
            have hA := ((hR3.put hN (Nat.le_refl _) p2).alloc (.cells #[.string k, .string pa, .string cu, .int .i64 am, .string p2.s, .int .i64 p2.n, .int .i64 p2.t, .int .i64 p2.a] 29)).alloc (.cells #[.string kd, .string k, .string pa, .string cu, .int .i64 am, .int .i64 (q.p.a + 1)] 34)
            have hcA := hA.b1.c
            have hpa1 : q.p.a + 1 ≤ 1000000 ∧ 0 ≤ q.p.a + 1 := by have := hPB.a0; have := hPB.a1; omega
            simp only [pcs] at hcA
            clear hb3 hR2 hc2 hl2 hf2 hR3 hgo hp2 hkd hPB
            go_wp2_with fail
            refine (ask_gr wi base g vr0 vl0 k kd pa cu am (q.p.a + 1) c q.recs late' _ hA.gr (by have := hA.kp.1; omega) (by omega) (by omega) hc8).mono ?_
            rintro e w4 ⟨A, n, cc, rfl, hn, hO, hG4, hK4⟩
            have hR4 := hA.next hG4 hK4
            obtain ⟨B4, hO4⟩ : ∃ B4, Own A102.l 3 102 w4 B4 (.slice A n cc) (tTold k kd (q.p.a + 1) (c % 8) q.recs) := ⟨_, hO⟩
            have ht2 := told2 k kd (q.p.a + 1) (c % 8) q.recs
            clear hO hG4 hK4 hA hcA hc3 hl3 hf3 hB2
            generalize tTold k kd (q.p.a + 1) (c % 8) q.recs = told at *
            generalize tRecs k kd pa cu am (c % 8) q.recs = recs4 at *
            generalize tLate k kd (q.p.a + 1) (c % 8) q.recs late' = late4 at *
            subst hn
            simp only []
            go_wp2
            go_loopw [68] (fun i wr2 => ∃ m2 : Nat, m2 ≤ told.length ∧ i = .int .i64 m2 ∧ Hid (RI wi w base g vr0 vl0 k pa cu am w.heap.size (hears p2 (told.take m2) (now + m)) recs4 late4 wr2 ∧ Own A102.l 3 102 wr2 B4 (.slice A told.length cc) told)) (fun i _ => told.length - (intOf i).toNat)
            case atStart => exact ⟨0, Nat.zero_le _, rfl, hidI ⟨hR4, hO4⟩⟩
            case round =>
              obtain ⟨m2, hm2, rfl, hRO⟩ := hrel
              clear hR4 hO4
              by_cases hlt2 : m2 < told.length
              · obtain ⟨hR5, hO5⟩ := hRO.out
                obtain ⟨A', c', hv, _, hD5⟩ := own102 hO5
                obtain rfl : A = A' := by injection hv
                obtain ⟨b3, off3, rfl, hx3⟩ := Kp.C_open hD5 (by omega) (by decide)
                obtain ⟨z, hze⟩ : ∃ z, z = told[m2] := ⟨_, rfl⟩
                have q0 : wr.cell? ⟨b3, off3 + m2 * 3, none⟩ = some (.string z.f0) := by rw [hze]; exact hx3 m2 hlt2 0 _ rfl
                have q1 : wr.cell? ⟨b3, off3 + m2 * 3 + 1, none⟩ = some (.string z.f1) := by rw [hze]; exact hx3 m2 hlt2 1 _ rfl
                have q2 : wr.cell? ⟨b3, off3 + m2 * 3 + 2, none⟩ = some (.int .i64 z.f2) := by rw [hze]; exact hx3 m2 hlt2 2 _ rfl
                have HZE := hidI hze
                have hPB5 : PB (hears p2 (told.take m2) (now + m)) (now + m) (j + 4 * m + 4) := (PB.hears (by omega) (told.take m2) hPB2).mono (Int.le_refl _) (by rw [List.length_take]; omega)
                obtain ⟨p5, hp5⟩ : ∃ p5, p5 = hears p2 (told.take m2) (now + m) := ⟨_, rfl⟩
                rw [← hp5] at hR5 hPB5
                have HP5 := hidI hp5
                have hc5 := hR5.b1.c; have hl5 := hR5.b1.lt; have hf5 := hR5.b1.f
                simp only [pcs] at hc5
                clear hx3 hze hD5 hv hRO hp5
                go_wp2_with fail
                refine (hear_ps k pa cu am p5 z.f1 z.f2 (now + m) _ ?_ ?_).mono ?_
                · have := hPB5.t0; have := hPB5.t1; omega
                · omega
                rintro e w6 ⟨p6, bb6, hp6, rfl, hb6⟩
                have HP6 := hidI hp6
                have hR6 := (hR5.alloc (.cells #[.string z.f0, .string z.f1, .int .i64 z.f2] 102)).below hb6
                have hO6 := (hO5.alloc (.cells #[.string z.f0, .string z.f1, .int .i64 z.f2] 102)).below hb6
                have nb := own_nb hO6 hR6.b1 (by decide)
                have hc6 := hR6.b1.c; have hl6 := hR6.b1.lt; have hf6 := hR6.b1.f
                simp only [pcs] at hc6
                have hfin := hidI (And.intro (hR6.put hN (Nat.le_refl _) p6) ((((((((hO6.far (p := ⟨w.heap.size, 0, none⟩) nb (.string k)).far (p := ⟨w.heap.size, 1, none⟩) nb (.string pa)).far (p := ⟨w.heap.size, 2, none⟩) nb (.string cu)).far (p := ⟨w.heap.size, 3, none⟩) nb (.int .i64 am)).far (p := ⟨w.heap.size, 4, none⟩) nb (.string p6.s)).far (p := ⟨w.heap.size, 5, none⟩) nb (.int .i64 p6.n)).far (p := ⟨w.heap.size, 6, none⟩) nb (.int .i64 p6.t)).far (p := ⟨w.heap.size, 7, none⟩) nb (.int .i64 p6.a)))
                have hst : Hid (hears p2 (told.take (m2 + 1)) (now + m) = p6) := by
                  show _ = _
                  rw [List.take_succ_eq_append_getElem hlt2, hears_snoc, hp6, HP5.out, HZE.out]
                clear hb6 hR6 hO6 nb hR5 hO5 q0 q1 q2 hp6 hc5 hl5 hf5
                go_wp2
                go_roundw
                case rel => exact ⟨m2 + 1, by omega, by go_num, hidI (by rw [hst.out]; exact hfin.out)⟩
                case measure => simp [intOf]; omega
              · have e : m2 = told.length := by omega
                subst e
                obtain ⟨hR5, hO5⟩ := hRO.out
                rw [List.take_length] at hR5
                have hfin := hidI hR5
                clear hR5 hO5 hRO
                go_wp2
                go_roundw
                case rel => exact ⟨m + 1, by omega, by go_num, hidI (by rw [hnext.out, hnx.out]; exact hfin.out)⟩
                case measure => simp [intOf]; omega
    · have e : m = zs.length := by omega
      subst e
      rw [List.take_length] at hRK
      obtain ⟨q, hq⟩ : ∃ q, q = runs k pa cu am now r zs := ⟨_, rfl⟩
      rw [← hq] at hRK
      have HQ := hidI hq
      have hR := hRK.out
      have hc2 := hR.b1.c; have hl2 := hR.b1.lt
      have hc4 := hR.b2.c; have hl4 := hR.b2.lt; have hf4 := hR.b2.f
      simp only [pcs] at hc2
      simp only [zcs] at hc4
      obtain ⟨h1, h2, h3, _⟩ := hR.gr.puts hR.b2 hR.kp (by omega) (by omega) q.p (zcs_put (k := k) (pa := pa) (cu := cu) (am := am) q.p)
      clear hq hRK hR hlt
      go_wp2
      refine bodyPost_ret (v := .agg #[.string k, .string pa, .string cu, .int .i64 am, .string q.p.s, .int .i64 q.p.n, .int .i64 q.p.t, .int .i64 q.p.a]) (res75 h2 rfl) rfl ?_
      exact ⟨q, HQ.out, rfl, h1, h3⟩
end Go.Proofs.Ytliacfjdenfldaa
