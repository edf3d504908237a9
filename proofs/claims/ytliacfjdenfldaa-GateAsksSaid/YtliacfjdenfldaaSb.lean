import Derived.Test.YtliacfjdenfldaaSa
/- The reference's gateway: Take. -/
namespace Go.Proofs.Ytliacfjdenfldaa
open Go.RowKit Go.Proofs.Kq
open Go.Proofs.YtliacfjdenfldaaW.PrintWords (pw_cell_below step_append_cells print_append_cells Kd Kd.C Kd.C_below)
open Go.Proofs.YtliacfjdenfldaaW.PrintLast
set_option linter.unusedSimpArgs false
set_option linter.unusedVariables false

def skp (n k : Nat) (xs : List A102) : List A102 := if k ≤ n then xs.take k else xs.take n ++ (xs.drop (n + 1)).take (k - n - 1)
theorem skp_lt {n k : Nat} {xs : List A102} (hk : k < xs.length) (h : k ≠ n) : skp n (k + 1) xs = skp n k xs ++ [xs[k]] := by
  unfold skp
  by_cases h1 : k < n
  · rw [if_pos (by omega), if_pos (by omega), List.take_succ_eq_append_getElem hk]
  · have hd : k - n - 1 < (xs.drop (n + 1)).length := by simp; omega
    rw [if_neg (by omega), if_neg (by omega), show k + 1 - n - 1 = (k - n - 1) + 1 by omega, List.take_succ_eq_append_getElem hd, ← List.append_assoc]
    congr 2
    simp only [List.getElem_drop]
    congr 1; omega
theorem skp_eq {n : Nat} {xs : List A102} : skp n (n + 1) xs = skp n n xs := by
  unfold skp; rw [if_neg (by omega), if_pos (Nat.le_refl _)]; simp
theorem skp_end {n : Nat} {xs : List A102} (h : n < xs.length) : skp n xs.length xs = xs.take n ++ xs.drop (n + 1) := by
  unfold skp; rw [if_neg (by omega), List.take_of_length_le (l := xs.drop (n + 1)) (by rw [List.length_drop]; omega)]
theorem skp_len (n k : Nat) (xs : List A102) : (skp n k xs).length ≤ k := by
  unfold skp; split
  · simp; omega
  · simp; omega

def TakeP (base g : Nat) (vr vl : Value) (n : Int) (recs : List A98) (late : List A102) (w : World) (e : Ending) (w' : World) : Prop :=
  e = .returned (.tuple #[.agg #[.string (lX n late).f0, .string (lX n late).f1, .int .i64 (lX n late).f2], .bool (lIs n late)]) ∧
    ∃ vl', Rt w' base g vr vl' recs (lLate n late) ∧ Fr (fun k => k = g) w w'
theorem res68 {wf : World} {rb : Nat} {x y z : Value} {v : Value} {t : Array Value} (h : Blk wf rb #[x, y, z] 137) (hx : x.oneCell' = true) (hy : y.oneCell' = true) (hz : z.oneCell' = true) (h4 : t[4]? = some (.pointer (some ⟨rb, 0, none⟩))) (h5 : t[5]? = some v) : (results Try.f68 t).run Try.prog wf = .ok (.tuple #[.agg #[x, y, z], v]) wf := by
  have c := h.c; have l := h.lt
  simp [results, Try.results68, go_sem, c, l, h4, h5]
set_option maxRecDepth 100000 in
set_option maxHeartbeats 4000000 in
theorem take_no (base g : Nat) (vr vl : Value) (n : Int) (recs : List A98) (late : List A102) (w : World) (hG : Rt w base g vr vl recs late) (hn : ¬ (0 ≤ n ∧ n < late.length)) :
    Calls Try.prog 68 #[.pointer (some ⟨g, 0, none⟩), .int .i64 n] w (TakeP base g vr vl n recs late w) := by
  have hend : Hid (∀ w', Below w.heap.size w w' → TakeP base g vr vl n recs late w (.returned (.tuple #[.agg #[.string ⟨#[]⟩, .string ⟨#[]⟩, .int .i64 0], .bool false])) w') := by
    intro w' hb
    have e2 : lIs n late = false := by
      simp only [lIs, Bool.and_eq_false_iff, decide_eq_false_iff_not]
      by_cases h : 0 ≤ n
      · exact Or.inr (fun h2 => hn ⟨h, h2⟩)
      · exact Or.inl h
    refine ⟨by rw [e2]; simp only [lX, if_neg hn]; rfl, vl, by simp only [lLate, if_neg hn]; exact hG.below hb, Fr.of_below hb⟩
  obtain ⟨A, c, rfl, _, hC⟩ := own102e hG.lat
  have c0 := hG.blk.c; have l0 := hG.blk.lt
  clear hG hC
  by_cases h0 : n < 0
  · have t1 : decide (n < 0) = true := by simpa using h0
    clear hn
    go_enter Try.func68, Try.ntmps68
    go_wp2
    refine bodyPost_ret (v := .tuple #[.agg #[.string ⟨#[]⟩, .string ⟨#[]⟩, .int .i64 0], .bool false]) (res68 (Blk.new' rfl) rfl rfl rfl rfl rfl) rfl ?_
    exact hend.out _ (by repeat (first | exact Below.refl _ _ | apply below_new))
  · have t1 : decide (n < 0) = false := by simpa using h0
    have t2 : decide (n ≥ late.length) = true := by simp; omega
    clear hn h0
    go_enter Try.func68, Try.ntmps68
    go_wp2
    refine bodyPost_ret (v := .tuple #[.agg #[.string ⟨#[]⟩, .string ⟨#[]⟩, .int .i64 0], .bool false]) (res68 (Blk.new' rfl) rfl rfl rfl rfl rfl) rfl ?_
    exact hend.out _ (by repeat (first | exact Below.refl _ _ | apply below_new))

set_option maxRecDepth 100000 in
set_option maxHeartbeats 4000000 in
theorem take_yes (base g : Nat) (vr vl : Value) (n : Nat) (recs : List A98) (late : List A102) (w : World) (hG : Rt w base g vr vl recs late) (hb : base ≤ w.heap.size) (hk : n < late.length) (hl : late.length ≤ 100000) :
    Calls Try.prog 68 #[.pointer (some ⟨g, 0, none⟩), .int .i64 n] w (TakeP base g vr vl n recs late w) := by
  obtain ⟨x, hxe⟩ : ∃ x, x = late[n] := ⟨_, rfl⟩
  have hend : Hid (∀ vl' w', Rt w' base g vr vl' recs (late.take n ++ late.drop (n + 1)) → Fr (fun k => k = g) w w' → TakeP base g vr vl n recs late w (.returned (.tuple #[.agg #[.string x.f0, .string x.f1, .int .i64 x.f2], .bool true])) w') := by
    intro vl' w' h1 h2
    have hn : (0 : Int) ≤ n ∧ (n : Int) < late.length := by omega
    have e1 : lX n late = x := by simp only [lX, if_pos hn, hxe]; simp [List.getElem?_eq_getElem hk]
    have e2 : lIs n late = true := by simp [lIs]; omega
    have e3 : lLate n late = late.take n ++ late.drop (n + 1) := by simp only [lLate, if_pos hn]; simp
    exact ⟨by rw [e1, e2], vl', by rw [e3]; exact h1, h2⟩
  obtain ⟨A, c, rfl, _, hC⟩ := own102e hG.lat
  obtain ⟨b, off, rfl, hx⟩ := Kp.C_open hC (by omega) (by decide)
  have q0 : w.cell? ⟨b, off + n * 3, none⟩ = some (.string x.f0) := by rw [hxe]; exact hx n hk 0 _ rfl
  have q1 : w.cell? ⟨b, off + n * 3 + 1, none⟩ = some (.string x.f1) := by rw [hxe]; exact hx n hk 1 _ rfl
  have q2 : w.cell? ⟨b, off + n * 3 + 2, none⟩ = some (.int .i64 x.f2) := by rw [hxe]; exact hx n hk 2 _ rfl
  have c0 := hG.blk.c; have l0 := hG.blk.lt; have f0 := hG.blk.f
  have HG := hidI hG
  have HX := hidI hx
  have lb0 : b < w.heap.size := hG.lat.lt rfl
  have t1 : decide ((n : Int) < 0) = false := by simp
  have t2 : decide (late.length ≤ n) = false := by simp; omega
  clear hG hC hx hxe
  go_enter Try.func68, Try.ntmps68
  go_wp2
  have hB1 : Blk ((w.alloc (.cells #[.string ⟨#[]⟩, .string ⟨#[]⟩, .int .i64 0] 137)).alloc (.cells #[.string x.f0, .string x.f1, .int .i64 x.f2] 137)) w.heap.size #[.string ⟨#[]⟩, .string ⟨#[]⟩, .int .i64 0] 137 := (Blk.new' rfl).al _
  have hB2 : Blk ((w.alloc (.cells #[.string ⟨#[]⟩, .string ⟨#[]⟩, .int .i64 0] 137)).alloc (.cells #[.string x.f0, .string x.f1, .int .i64 x.f2] 137)) (w.heap.size + 1) #[.string x.f0, .string x.f1, .int .i64 x.f2] 137 := Blk.new' (by simp)
  have hbW : Below w.heap.size w ((w.alloc (.cells #[.string ⟨#[]⟩, .string ⟨#[]⟩, .int .i64 0] 137)).alloc (.cells #[.string x.f0, .string x.f1, .int .i64 x.f2] 137)) := below_new (below_new (Below.refl _ _) _) _
  have hsW : ((w.alloc (.cells #[.string ⟨#[]⟩, .string ⟨#[]⟩, .int .i64 0] 137)).alloc (.cells #[.string x.f0, .string x.f1, .int .i64 x.f2] 137)).heap.size = w.heap.size + 2 := by simp
  generalize ((w.alloc (.cells #[.string ⟨#[]⟩, .string ⟨#[]⟩, .int .i64 0] 137)).alloc (.cells #[.string x.f0, .string x.f1, .int .i64 x.f2] 137)) = W at *
  have HS := hidI hsW
  have hs1 : w.heap.size + 2 ≤ W.heap.size := by omega
  clear hsW q0 q1 q2 c0 l0 f0
  go_loopw [7, 8] (fun v i wr => ∃ k : Nat, k ≤ late.length ∧ i = .int .i64 k ∧ Hid (Own A102.l 3 137 wr W.heap.size v (skp n k late) ∧ Below W.heap.size W wr)) (fun _ i _ => late.length - (intOf i).toNat)
  case atStart => exact ⟨0, Nat.zero_le _, rfl, hidI ⟨by simp only [skp, Nat.zero_le, if_true, List.take_zero]; exact Own.nil _ _ _ _ _, Below.refl _ _⟩⟩
  case round =>
    obtain ⟨k, hk2, rfl, hOB⟩ := hrel
    obtain ⟨hO, hbr⟩ := hOB.out
    have hGB := (HG.out.blk.be hbW).be hbr
    have c0 := hGB.c; have l0 := hGB.lt; have f0 := hGB.f
    by_cases hlt : k < late.length
    · by_cases hkn : k = n
      · have hne : ((k : Int) != n) = false := by simp [hkn]
        have hfin : Hid (Own A102.l 3 137 wr W.heap.size u7 (skp n (k + 1) late) ∧ Below W.heap.size W wr) := by rw [hkn, skp_eq, ← hkn]; exact ⟨by rw [hkn] at hO; rw [hkn]; exact hO, hbr⟩
        clear hkn hO hOB hGB
        go_wp2
        go_roundw
        case rel => exact ⟨k + 1, by omega, by go_num, hfin⟩
        case measure => simp [intOf]; omega
      · have hne : ((k : Int) != n) = true := by simp; omega
        obtain ⟨y, hye⟩ : ∃ y, y = late[k] := ⟨_, rfl⟩
        have q0 : wr.cell? ⟨b, off + k * 3, none⟩ = some (.string y.f0) := by rw [hye]; exact pw_cell_below hbr (pw_cell_below hbW (HX.out k hlt 0 _ rfl))
        have q1 : wr.cell? ⟨b, off + k * 3 + 1, none⟩ = some (.string y.f1) := by rw [hye]; exact pw_cell_below hbr (pw_cell_below hbW (HX.out k hlt 1 _ rfl))
        have q2 : wr.cell? ⟨b, off + k * 3 + 2, none⟩ = some (.int .i64 y.f2) := by rw [hye]; exact pw_cell_below hbr (pw_cell_below hbW (HX.out k hlt 2 _ rfl))
        have hsk : Hid (skp n (k + 1) late = skp n k late ++ [y]) := by show _ = _; rw [hye]; exact skp_lt hlt hkn
        have hsl := skp_len n k late
        have HO := hidI hO
        have hbs := hbr.size
        clear hkn hO hOB hGB hye
        generalize skp n k late = zs at *
        go_wp2_with (at_builtin; refine print_append_cells (w0 := W) (W := wr) W.heap.size rfl (.tmp 40) (.tmp 48) 132 137 (.agg #[(.string ⟨#[]⟩), (.string ⟨#[]⟩), (.int .i64 0)]) 3 40 rfl Try.underlying132 info137 rfl (by decide) (by decide) u7 zs.length (zs.flatMap A102.l) [.string y.f0, .string y.f1, .int .i64 y.f2] (by rfl) (by rfl) rfl (by simp [Value.oneCell']) HO.out hbr hbs (by omega) ?_; intro v5 w5 ho5 hb5 hg5 hat5)
        have hfin : Hid (Own A102.l 3 137 w5 W.heap.size v5 (skp n (k + 1) late) ∧ Below W.heap.size W w5) := by
          refine ⟨?_, hb5⟩
          rw [hsk.out]
          exact Own.snoc (p := y) ho5
        clear ho5 hg5 hat5 HO hbr q0 q1 q2 c0 l0 f0
        go_wp2
        go_roundw
        case rel => exact ⟨k + 1, by omega, by go_num, hfin⟩
        case measure => simp [intOf]; omega
    · have e : k = late.length := by omega
      rw [e, skp_end hk] at hO
      obtain ⟨l7, hl7⟩ : ∃ l7, l7 = late.take n ++ late.drop (n + 1) := ⟨_, rfl⟩
      rw [← hl7] at hO
      obtain ⟨A7, c7, rfl, _⟩ := hO.slice_
      have HL7 := hidI hl7
      have hB1r := hB1.be hbr
      have hB2r := hB2.be hbr
      have hGr := (HG.out.below hbW).below hbr
      have hFr := ((Fr.of_below (S := fun k => k = g) hbW).below hbr)
      have hgne : g ≠ w.heap.size := by have := HG.out.blk.lt; omega
      have hgne2 : g ≠ w.heap.size + 1 := by have := HG.out.blk.lt; omega
      have c1 := hB1r.c; have l1 := hB1r.lt; have f1 := hB1r.f
      have c2 := hB2r.c; have l2 := hB2r.lt
      have HGN := hidI hgne
      have lg : g < w.heap.size := HG.out.blk.lt
      have ln : ¬ (w.heap.size + 1 = g) := by omega
      have ln2 : ¬ (w.heap.size = g) := by omega
      have hfin : ∀ w', w' = (((wr.setCell ⟨g, 1, none⟩ (.slice A7 l7.length c7)).setCell ⟨w.heap.size, 0, none⟩ (.string x.f0)).setCell ⟨w.heap.size, 1, none⟩ (.string x.f1)).setCell ⟨w.heap.size, 2, none⟩ (.int .i64 x.f2) → Blk w' w.heap.size #[.string x.f0, .string x.f1, .int .i64 x.f2] 137 ∧ TakeP base g vr (.slice (some ⟨b, off, none⟩) late.length c) n recs late w (.returned (.tuple #[.agg #[.string x.f0, .string x.f1, .int .i64 x.f2], .bool true])) w' := by
        rintro w' rfl
        have a1 : Blk (wr.setCell ⟨g, 1, none⟩ (.slice A7 l7.length c7)) w.heap.size _ _ := hB1r.so (Ne.symm hgne)
        have a2 := a1.st 0 (.string x.f0)
        have a3 := a2.st 1 (.string x.f1)
        have a4 := a3.st 2 (.int .i64 x.f2)
        refine ⟨a4.of rfl, hend.out (.slice A7 l7.length c7) _ ⟨?_, ?_, ?_⟩ ?_⟩
        · exact (((((hGr.blk.st 1 (.slice A7 l7.length c7)).of rfl).so (by simp; omega)).so (by simp; omega)).so (by simp; omega))
        · have nb := own_nb hGr.rec_ hGr.blk (by decide)
          have nb2 := own_nb hGr.rec_ hB1r (by decide)
          exact (((hGr.rec_.far (p := ⟨g, 1, none⟩) nb _).far (p := ⟨_, 0, none⟩) nb2 _).far (p := ⟨_, 1, none⟩) nb2 _).far (p := ⟨_, 2, none⟩) nb2 _
        · have nb := own_nb hO hGr.blk (by decide)
          have nb2 : (Value.slice A7 l7.length c7).ownBlock ≠ some w.heap.size := fun h => by have := hO.ge h; omega
          rw [← HL7.out]
          exact ((((hO.lower (by omega)).far (p := ⟨g, 1, none⟩) nb _).far (p := ⟨_, 0, none⟩) nb2 _).far (p := ⟨_, 1, none⟩) nb2 _).far (p := ⟨_, 2, none⟩) nb2 _
        · exact (((hFr.setCell (p := ⟨g, 1, none⟩) (fun _ => rfl) _).setCell (p := ⟨_, 0, none⟩) (by simp) _).setCell (p := ⟨_, 1, none⟩) (by simp) _).setCell (p := ⟨_, 2, none⟩) (by simp) _
      clear hO hOB hB1r hB2r hGr hFr hGB hbr e hgne2 hl7
      go_wp2
      obtain ⟨hBf, hTf⟩ := hfin _ rfl
      refine bodyPost_ret (v := .tuple #[.agg #[.string x.f0, .string x.f1, .int .i64 x.f2], .bool true]) (res68 hBf rfl rfl rfl rfl rfl) rfl ?_
      exact hTf
theorem take_any (base g : Nat) (vr vl : Value) (n : Int) (recs : List A98) (late : List A102) (w : World) (hG : Rt w base g vr vl recs late) (hb : base ≤ w.heap.size) (hl : late.length ≤ 100000) :
    Calls Try.prog 68 #[.pointer (some ⟨g, 0, none⟩), .int .i64 n] w (TakeP base g vr vl n recs late w) := by
  by_cases h : 0 ≤ n ∧ n < late.length
  · obtain ⟨k, rfl⟩ : ∃ k : Nat, n = k := ⟨n.toNat, by omega⟩
    exact take_yes base g vr vl k recs late w hG hb (by omega) hl
  · exact take_no base g vr vl n recs late w hG h
end Go.Proofs.Ytliacfjdenfldaa
