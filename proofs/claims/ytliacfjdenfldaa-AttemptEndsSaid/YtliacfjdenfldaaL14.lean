import Derived.Test.YtliacfjdenfldaaL13
namespace Go.Proofs.Ytliacfjdenfldaa
open Go.RowKit Go.Proofs.Kq
open Go.Proofs.YtliacfjdenfldaaW.PrintWords (pw_cell_below step_append_cells print_append_cells Kd Kd.C Kd.C_below)
open Go.Proofs.YtliacfjdenfldaaW.PrintLast
set_option linter.unusedSimpArgs false
set_option linter.unusedVariables false

def l8 (z : Int) : List Value := [.int .u8 z]
theorem l8_one : ∀ x : Int, ∀ u ∈ l8 x, u.oneCell' = true := by intro x u hu; rcases List.mem_singleton.1 hu with rfl; rfl
def d8 : Kd Int := Kp.plain 1 l8 (fun _ => rfl) l8_one
theorem own8 {w : World} {base : Nat} {v : Value} {xs : List Int} (h : Own l8 1 5 w base v xs) : ∃ A c, v = .slice A xs.length c ∧ xs.length ≤ c ∧ Kd.C d8 w A xs.length xs :=
  Own.reads (hl := fun x => (rfl : (l8 x).length = 1)) (h1 := l8_one) h
theorem info5 : (Try.prog.info? 5).map (fun i => (i.zero, i.size, i.bytes)) = some (some (.int .u8 0), 1, 1) := by kernel_rfl

set_option maxRecDepth 100000 in
set_option maxHeartbeats 4000000 in
theorem walk14 (am : Int) (ad : Option Addr) (zs : List Int) (cap : Nat) (w : World) (ha : (Lit.int .u32 am).wf = true) (hw : Rk.RdSl w (Rk.Kn.int Try.underlying5).cells (Rk.Kn.int Try.underlying5).ok 1 ad zs cap) (hy : zs.length * 1 ≤ 140737488351232) :
    Calls Try.prog 14 #[.int .u32 am, .slice ad zs.length cap] w fun e w' => e = .returned (.bool true) ∧ Below w.heap.size w w' := by
  have hl : Hid (∀ w', Below w.heap.size w w' → Calls Try.prog 23 #[] w' fun e w'' => e = .returned (.bool true) ∧ Below w.heap.size w w'') := fun w' hb => (lives17_any w').mono fun e w'' h => ⟨h.1, below_step hb h.2⟩
  have ha2 : 0 ≤ am ∧ am ≤ 4294967295 := by
    simp only [Lit.wf, Bool.and_eq_true, decide_eq_true_eq] at ha
    have e1 : IntKind.u32.min = 0 := by decide
    have e2 : IntKind.u32.max = 4294967295 := by decide
    omega
  clear ha
  by_cases h300 : 300 < zs.length
  · have hgt : decide ((zs.length : Int) > 300) = true := by simp; omega
    clear hw
    go_enter Try.func14, Try.ntmps14
    go_wp2_with (first | (go_at_call 23; refine (hl.out _ (by first | exact Below.refl _ _ | assumption)).mono ?_; rintro e w1 ⟨rfl, hb⟩) | fail)
    go_ret
    exact ⟨rfl, by assumption⟩
  have HW := hidI hw
  clear hw
  go_enter Try.func14, Try.ntmps14
  go_wp2_with (first | (go_at_call 23; refine (hl.out _ (by first | exact Below.refl _ _ | assumption)).mono ?_; rintro e w1 ⟨rfl, hb⟩) | fail)
  refine (run_law bK bAnn bEur am 0 0 r0 ad cap zs _ HW.out (below_new hb _) hb.size (GR.new hb) r0_RB (by omega) (by omega) (by omega)).mono ?_
  rintro e w2 ⟨r, hr, rfl, hG2, hK2⟩
  obtain ⟨rb, _, hJ⟩ := runs_J zs (now := 0) (r0_J am)
  have hRB := RB.runs (k := bK) (pa := bAnn) (cu := bEur) (am := am) zs r0_RB (by omega)
  rw [← hr] at hJ hRB
  have hJ1 := hJ.recs
  have HJ := hidI hJ
  have HRB := hidI hRB
  clear hr hJ hRB
  have hbi := below_new hb (.cells #[.slice none 0 0, .slice none 0 0] 90)
  have hgs := hb.size
  have hG3 := hG2.alloc (.cells #[.string bK, .string bAnn, .string bEur, .int .i64 am, .string r.p.s, .int .i64 r.p.n, .int .i64 r.p.t, .int .i64 r.p.a] 29)
  have hN : (w1.alloc (.cells #[.slice none 0 0, .slice none 0 0] 90)).heap.size ≤ w2.heap.size := hG2.fr.size
  clear hb hG2 hK2
  go_wp2_with fail
  refine (recs_gr _ w.heap.size _ nilS nilS _ _ _ hG3 (by rw [hJ1]; cases rb <;> simp [rl])).mono ?_
  rintro e w3 ⟨A3, c3, rfl, hc3, hC3, hb3⟩
  have hG4 := hG3.below hb3
  have hB := Blk.be (Blk.new' (w := w2) (b := w2.heap.size) (cs := #[.string bK, .string bAnn, .string bEur, .int .i64 am, .string r.p.s, .int .i64 r.p.n, .int .i64 r.p.t, .int .i64 r.p.a]) (T := 29) rfl) hb3
  clear hG3 hb3 hC3 hc3
  have hlen : r.recs.length = 0 ∨ r.recs.length = 1 := by rw [hJ1]; cases rb <;> simp [rl]
  have HJ1 := hidI hJ1
  clear hJ1
  obtain ⟨kb, hkb⟩ : ∃ kb, ((r.recs.length : Int) == 1) = kb := ⟨_, rfl⟩
  have hkb2 : rb = none ∨ kb = true := by
    rw [← hkb, HJ1.out]; cases rb <;> simp [rl]
  clear hlen
  simp only []
  go_wp2
  have HKB := hidI hkb
  clear hkb
  have hw3 := hG4.bel hbi hgs
  go_loopw [8, 31] (fun v i wr => ∃ m : Nat, m ≤ 30 ∧ i = .int .i64 m ∧ Hid (Own l8 1 5 wr w3.heap.size v (List.replicate m 1) ∧ Below w3.heap.size w3 wr)) (fun _ i _ => 30 - (intOf i).toNat)
  case atStart => exact ⟨0, Nat.zero_le _, rfl, hidI ⟨Own.nil _ _ _ _ _, Below.refl _ _⟩⟩
  case round =>
    obtain ⟨m, hm, rfl, hOB⟩ := hrel
    obtain ⟨hO, hb4⟩ := hOB.out
    by_cases hlt : m < 30
    · have hO' : wr.ownsRow w3.heap.size 5 1 u8 m ((List.replicate m (1 : Int)).flatMap l8) := by
        have h : wr.ownsRow w3.heap.size 5 1 u8 (List.replicate m (1 : Int)).length ((List.replicate m (1 : Int)).flatMap l8) := hO
        rw [List.length_replicate] at h
        exact h
      have HO := hidI hO'
      clear hO hO'
      go_wp2_with (at_builtin; refine print_append_cells (w0 := w3) (W := wr) w3.heap.size rfl (.tmp 33) (.tmp 34) 64 5 (.int .u8 0) 1 1 rfl Try.underlying64 info5 rfl (by decide) (by decide) u8 m ((List.replicate m (1 : Int)).flatMap l8) [.int .u8 1] (by rfl) (by rfl) rfl (by simp [Value.oneCell']) HO.out hb4 hb4.size (by omega) ?_; intro v5 w5 ho5 hb5 hg5 hat5)
      have hfin : Hid (Own l8 1 5 w5 w3.heap.size v5 (List.replicate (m + 1) 1) ∧ Below w3.heap.size w3 w5) := by
        refine ⟨?_, hb5⟩
        rw [List.replicate_succ']
        refine Own.snoc (p := (1 : Int)) ?_
        rw [List.length_replicate]
        exact ho5
      clear ho5 hb5 hg5 hat5 hb4
      go_wp2
      go_roundw
      case rel => exact ⟨m + 1, by omega, by go_num, hfin⟩
      case measure => simp [intOf]; omega
    · have e : m = 30 := by omega
      subst e
      obtain ⟨ys, hys⟩ : ∃ ys, ys = List.replicate 30 (1 : Int) := ⟨_, rfl⟩
      rw [← hys] at hO
      have hyl : ys.length = 30 := by rw [hys, List.length_replicate]
      have hy1 : ∀ i (h : i < ys.length), ys[i] = 1 := by intro i h; simp only [hys, List.getElem_replicate]
      obtain ⟨b5, c5, rfl⟩ : ∃ b c, u8 = .slice (some ⟨b, 0, none⟩) ys.length c := by
        rcases hO.cases_ with ⟨_, h⟩ | ⟨b, c, h, _⟩
        · rw [h] at hyl; simp at hyl
        · exact ⟨b, c, h⟩
      obtain ⟨cur, hcur⟩ := hO.at_ (k := b5) rfl
      have hcur' : Blk wr b5 cur 5 := hcur
      have hcell : ∀ i (h : i < ys.length), cur[i]? = some (.int .u8 ys[i]) := by
        obtain ⟨A', c', hv, _, hD⟩ := own8 hO
        cases hv
        obtain ⟨b6, off6, he, hx⟩ := Kp.C_open hD (by omega) (by decide)
        cases he
        intro i hi
        have := hx i hi 0 _ rfl
        rw [hcur'.c] at this
        simpa using this
      have HYS := hidI hys
      have hyl' : ys.length ≤ 30 := by omega
      have HCC := hidI hcell
      have HY1 := hidI hy1
      have hG5 := hG4.below hb4
      have hB5 := hB.be hb4
      have hw5 := below_step hw3 hb4
      have hc := hB5.c; have hl5 := hB5.lt
      clear hyl hys hO hOB hcur hcell hy1 hB hG4 hb4 hlt hm
      go_wp2_with fail
      refine (run_any _ w.heap.size _ nilS nilS bK bAnn bEur am (zs.length : Int) (4 * zs.length) r b5 0 c5 ys wr hG5 hw5.size (by have := HRB.out; simpa using this) (by omega) (by omega) (by omega) (fun i hi => by rw [HY1.out i hi]; decide)
        (fun w' _ hk i hi => by rw [(hk.blk hcur' (by decide) (by decide) (by decide)).c, Nat.zero_add]; exact HCC.out i hi)).mono ?_
      rintro e w6 ⟨r2, hr2, rfl, hG6, hK6⟩
      have hJr := HJ.out
      have hend : ovr r2 ∧ ∃ rb2, Ext rb rb2 ∧ J bK bAnn bEur am rb2 r2 ∧ (rb = none → rb2 = none ∨ rb2 = some true) := by
        rw [hr2, HYS.out]
        have hpb := HRB.out.pb
        have e0 : (0 : Int) + zs.length = zs.length := by omega
        rw [e0] at hpb
        exact ⟨endB 10 30 (by omega) hJr (by have := hpb.n1; omega) hpb (by omega), runs1_J 30 hJr⟩
      obtain ⟨hov, rb2, _, hJ2, hrb2⟩ := hend
      have hB6 := hK6.blk hB5 (by decide) (by decide) (by decide)
      obtain ⟨hj1, hj2, _⟩ := hJ2
      rw [hj1] at hG6
      have hB6' : Blk w6 w2.heap.size (pcs bK bAnn bEur am r.p) 29 := hB6
      have hN0 : w.heap.size ≤ w2.heap.size := by have := hbi.size; omega
      have hPP := pcs_put (k := bK) (pa := bAnn) (cu := bEur) (am := am) r.p r2.p
      have hK66 := Keeps.below (hG6.bel hbi hgs)
      obtain ⟨hG7, hB7, hK7, _⟩ := GR.puts (k := bK) (pa := bAnn) (cu := bEur) (am := am) hG6 hB6' hK66 hN hN0 r2.p hPP
      clear hPP hK66 hB6'
      have hc6 := hB6.c; have hl6 := hB6.lt; have hf6 := hB6.f
      have hc7 := hB7.c; have hl7 := hB7.lt; have hf7 := hB7.f
      clear hr2 hJr hj1 hB5 hc hl5 hG5 hcur' hB6
      have HJ2 := hidI hj2
      have HN := hidI hN
      clear hj2 hN
      go_wp2_with fail
      refine (moved_any _ w.heap.size _ nilS nilS bK _ _ _ hG7 (by cases rb2 <;> simp [rl]) (fun m _ => mv_bd ha2.1 (by omega) rb2 m)).mono ?_
      rintro e w8 ⟨s, n, hs, hn, rfl, hb8⟩
      have hw8 := below_step (hG7.bel hbi hgs) hb8
      have hB8 := hB7.be hb8
      have hc8 := hB8.c; have hl8 := hB8.lt
      simp only [pcs] at hc8
      clear hc7 hl7 hf7 hB7 hG7 hK7 hc6 hl6 hf6 hG6 hb8 HCC HY1 hK6
      have hsp : (rb2 = some true ∧ r2.p.s.toList = [112, 97, 105, 100]) ∨ (rb2 = some false ∧ r2.p.s.toList = [98, 97, 99, 107]) := by
        rcases HJ2.out with e | e | e | ⟨e, e2⟩ | ⟨e, e2⟩
        · have h : isOver r2.p.s = true := hov
          simp [isOver, e] at h
        · have h : isOver r2.p.s = true := hov
          simp [isOver, e] at h
        · have h : isOver r2.p.s = true := hov
          simp [isOver, e] at h
        · exact Or.inl ⟨e2, e⟩
        · exact Or.inr ⟨e2, e⟩
      have HOV := hidI hov
      have hov2 : Hid (isOver r2.p.s = true) := hov
      clear hov
      simp only []
      rcases hsp with ⟨e1, e2⟩ | ⟨e1, e2⟩
      · subst e1
        obtain ⟨m1, m2⟩ := mv_true (k := bK) (pa := bAnn) (cu := bEur) (am := am)
        rw [m1] at hn
        subst hn
        clear m1 m2 hs
        have E2 := hidI e2
        clear e2
        go_wp2_with fail
        refine (over_any _ _ _ _ _ _ _ _ _).mono ?_
        rintro e w9 ⟨rfl, rfl⟩
        rw [hov2.out]
        have e2 := E2.out
        go_wp2
        all_goals
          go_ret
          exact ⟨rfl, below_new hw8 _⟩
      · subst e1
        obtain ⟨m1, m2⟩ := mv_false (k := bK) (pa := bAnn) (cu := bEur) (am := am)
        rw [m1] at hn
        subst hn
        clear m1 m2 hs
        have hkt : kb = true := by
          rcases hkb2 with h | h
          · rcases hrb2 h with h | h <;> cases h
          · exact h
        subst hkt
        have E2 := hidI e2
        clear e2
        go_wp2_with fail
        refine (over_any _ _ _ _ _ _ _ _ _).mono ?_
        rintro e w9 ⟨rfl, rfl⟩
        rw [hov2.out]
        have e2 := E2.out
        go_wp2
        all_goals
          go_ret
          exact ⟨rfl, below_new hw8 _⟩
end Go.Proofs.Ytliacfjdenfldaa
