import Derived.Test.YtliacfjdenfldaaOg
import Derived.Laws.BytesArg
namespace Go.Proofs.Ytliacfjdenfldaa
open Go.RowKit Go.Proofs.Kq
open Go.Proofs.YtliacfjdenfldaaW.PrintWords (pw_cell_below step_append_cells print_append_cells Kd Kd.C Kd.C_below)
open Go.Proofs.YtliacfjdenfldaaW.PrintLast
set_option linter.unusedSimpArgs false
set_option linter.unusedVariables false

theorem info68 : (Try.prog.info? 68).map (fun i => (i.zero, i.size, i.bytes)) = some (some (.agg #[.bool false, .int .i64 0, .string ⟨#[]⟩]), 3, 32) := by kernel_rfl
def lb (b : Bool) : List Value := [.bool b]
theorem lb_one : ∀ x : Bool, ∀ u ∈ lb x, u.oneCell' = true := by intro x u hu; rcases List.mem_singleton.1 hu with rfl; rfl
def db : Kd Bool := Kp.plain 1 lb (fun _ => rfl) lb_one
/-- one item, as it is taken -/
def itm (b : Bool) (st : ByteArray × Bool) : A68 × ByteArray × Bool :=
  if b = true then (⟨true, 0, (textB st.1 st.2).1⟩, (textB st.1 st.2).2) else (⟨false, (intB st.1 st.2).1, ⟨#[]⟩⟩, (intB st.1 st.2).2)
def runL (s : ByteArray) (bs : List Bool) : List A68 × ByteArray × Bool := bs.foldl (fun p b => (p.1 ++ [(itm b p.2).1], (itm b p.2).2)) ([], s, false)
theorem runL_snoc (s : ByteArray) (bs : List Bool) (b : Bool) : runL s (bs ++ [b]) = ((runL s bs).1 ++ [(itm b (runL s bs).2).1], (itm b (runL s bs).2).2) := by simp [runL]
theorem textB_cut : textB ⟨#[]⟩ true = (⟨#[]⟩, ⟨#[]⟩, true) := by
  unfold textB; rw [takeB_cut (.inl rfl)]; rfl
theorem intB_cut : intB ⟨#[]⟩ true = (0, ⟨#[]⟩, true) := by
  unfold intB; rw [takeB_cut (.inl rfl)]; rfl
theorem itm_cut (b : Bool) : itm b (⟨#[]⟩, true) = (⟨b, 0, ⟨#[]⟩⟩, ⟨#[]⟩, true) := by
  cases b
  · simp [itm, intB_cut]
  · simp [itm, textB_cut]
theorem itm_int_short {s : ByteArray} (h : s.size < 8) : itm false (s, false) = (⟨false, 0, ⟨#[]⟩⟩, ⟨#[]⟩, true) := by
  have e : intB s false = (0, ⟨#[]⟩, true) := by unfold intB; rw [takeB_cut (.inr h)]; rfl
  simp [itm, e]
theorem itm_int {s : ByteArray} (h : 8 ≤ s.size) : itm false (s, false) = (⟨false, wrap64 (vI (bn (s.extract 0 8))), ⟨#[]⟩⟩, s.extract 8 s.size, false) := by
  have e : intB s false = (wrap64 (vI (bn (s.extract 0 8))), s.extract 8 s.size, false) := by
    unfold intB; rw [takeB_ok h]; simp only []; rw [if_neg (by rw [ByteArray.size_extract]; omega)]
  simp [itm, e]
theorem itm_text_short {s : ByteArray} (h : s.size < 2) : itm true (s, false) = (⟨true, 0, ⟨#[]⟩⟩, ⟨#[]⟩, true) := by
  have e : textB s false = (⟨#[]⟩, ⟨#[]⟩, true) := by unfold textB; rw [takeB_cut (.inr h)]; rfl
  simp [itm, e]
theorem itm_text_cut {s : ByteArray} {v : Nat} (h : 2 ≤ s.size) (hv : vI (bn (s.extract 0 2)) = v) (hl : s.size < 2 + v) : itm true (s, false) = (⟨true, 0, ⟨#[]⟩⟩, ⟨#[]⟩, true) := by
  have e : textB s false = (⟨#[]⟩, ⟨#[]⟩, true) := by
    unfold textB; rw [takeB_ok h]; simp only []; rw [if_neg (by rw [ByteArray.size_extract]; omega), hv, Int.toNat_natCast, takeB_cut (.inr (by rw [ByteArray.size_extract]; omega))]
  simp [itm, e]
theorem itm_text {s : ByteArray} {v : Nat} (h : 2 ≤ s.size) (hv : vI (bn (s.extract 0 2)) = v) (hl : 2 + v ≤ s.size) : itm true (s, false) = (⟨true, 0, s.extract 2 (2 + v)⟩, s.extract (2 + v) s.size, false) := by
  have e : textB s false = (s.extract 2 (2 + v), s.extract (2 + v) s.size, false) := by
    unfold textB; rw [takeB_ok h]; simp only []; rw [if_neg (by rw [ByteArray.size_extract]; omega), hv, Int.toNat_natCast, takeB_ok (by rw [ByteArray.size_extract]; omega)]
    rw [ByteArray.extract_extract, ByteArray.extract_extract, ByteArray.size_extract]
    have h1 : min (2 + v) s.size = 2 + v := by omega
    have h2 : min (2 + (min s.size s.size - 2)) s.size = s.size := by omega
    rw [h1, h2]
  simp [itm, e]
/-- the reference's string and mark, of a reader's -/
def RfS (st : ByteArray × Bool) (cut : Bool) (sr : ByteArray) : Prop := st.2 = cut ∧ (cut = true → st.1 = ⟨#[]⟩) ∧ (cut = false → st.1 = sr)
theorem vI2 {s : ByteArray} (h : 2 ≤ s.size) : ∃ v : Nat, v ≤ 65535 ∧ vI (bn (s.extract 0 2)) = v := by
  have hv := vI_bd (bn (s.extract 0 2)) (bn_mem _)
  rw [bn_len, ByteArray.size_extract] at hv
  have e : min 2 s.size - 0 = 2 := by omega
  rw [e] at hv
  have : (256 : Int) ^ 2 = 65536 := by decide
  exact ⟨(vI (bn (s.extract 0 2))).toNat, by omega, by omega⟩
def TkP (s0 : ByteArray) (bs : List Bool) (w : World) (e : Ending) (w' : World) : Prop :=
  ∃ v, e = .returned (.tuple #[v, .int .i64 (if (runL s0 bs).2.2 = true then 1 else if (runL s0 bs).2.1.size = 0 then 0 else 2)]) ∧ Own A68.l 3 68 w' w.heap.size v (runL s0 bs).1 ∧ Below w.heap.size w w'
theorem runL_len (s : ByteArray) (bs : List Bool) : (runL s bs).1.length = bs.length := by
  have : ∀ (bs : List Bool) (p : List A68 × ByteArray × Bool), (bs.foldl (fun p b => (p.1 ++ [(itm b p.2).1], (itm b p.2).2)) p).1.length = p.1.length + bs.length := by
    intro bs; induction bs with
    | nil => intro p; simp
    | cons b bs ih => intro p; rw [List.foldl_cons, ih]; simp; omega
  unfold runL; rw [this]; simp
set_option maxRecDepth 100000 in
set_option maxHeartbeats 8000000 in
theorem otake_any (s0 : ByteArray) (A : Option Addr) (c : Nat) (bs : List Bool) (w : World) (hC : Kd.C db w A bs.length bs) (hl : bs.length ≤ 200) (hs0 : s0.size ≤ 5000) :
    Calls Try.prog 46 #[.string s0, .slice A bs.length c] w (TkP s0 bs w) := by
  have hread : Hid (∀ k (h : k < bs.length), ∃ b off, A = some ⟨b, off, none⟩ ∧ ∀ w', Below w.heap.size w w' → w'.cell? ⟨b, off + k, none⟩ = some (.bool bs[k])) := by
    intro k hk
    obtain ⟨b, off, rfl, hx⟩ := Kp.C_open hC (by omega) (by decide)
    refine ⟨b, off, rfl, fun w' hb => ?_⟩
    have := hx k hk 0 _ rfl
    rw [Nat.mul_one, Nat.add_zero] at this
    exact pw_cell_below hb this
  clear hC
  go_enter Try.func46, Try.ntmps46
  go_wp2
  have hR0 : Hid (RfS (runL s0 (bs.take 0)).2 false s0) := ⟨rfl, fun h => absurd h (by decide), fun _ => rfl⟩
  have hO0 : Hid (Own A68.l 3 68 w w.heap.size (.slice none 0 0) (runL s0 (bs.take 0)).1 ∧ Below w.heap.size w w) := ⟨Own.nil _ _ _ _ _, Below.refl _ _⟩
  go_loopw [0, 6, 7, 8] (fun u0 u6 u7 u8 wr => ∃ k : Nat, k ≤ bs.length ∧ u8 = .int .i64 k ∧ ∃ sr : ByteArray, u0 = .string sr ∧ sr.size ≤ 5000 ∧ ∃ cut : Bool, u7 = .bool cut ∧ Hid (RfS (runL s0 (bs.take k)).2 cut sr) ∧ Hid (Own A68.l 3 68 wr w.heap.size u6 (runL s0 (bs.take k)).1 ∧ Below w.heap.size w wr)) (fun _ _ _ u8 _ => bs.length - (intOf u8).toNat)
  case atStart => exact ⟨0, Nat.zero_le _, rfl, _, rfl, hs0, _, rfl, hR0, hO0⟩
  case round =>
    obtain ⟨k, hk, rfl, sr, rfl, hss, cut, rfl, hRf, hI⟩ := hrel
    clear hR0 hO0
    obtain ⟨hO, hb⟩ := hI.out
    by_cases hlt : k < bs.length
    · obtain ⟨b, off, rfl, hq⟩ := hread.out k hlt
      have q0 := hq wr hb
      obtain ⟨b0, hbe⟩ : ∃ b0, b0 = bs[k] := ⟨_, rfl⟩
      rw [← hbe] at q0
      have htk : bs.take (k + 1) = bs.take k ++ [b0] := by rw [hbe]; exact List.take_succ_eq_append_getElem hlt
      have hzl := runL_len s0 (bs.take k)
      rw [List.length_take, Nat.min_eq_left hk] at hzl
      obtain ⟨zs, hzs⟩ : ∃ zs, (runL s0 (bs.take k)).1 = zs := ⟨_, rfl⟩
      rw [hzs] at hO hzl
      have hzl2 : zs.length ≤ 200 := by omega
      have hRf := hRf.out
      have hq2 : Hid (∀ w', Below w.heap.size w w' → w'.cell? ⟨b, off + k, none⟩ = some (.bool b0)) := by
        intro w' h
        rw [hbe]
        exact hq w' h
      clear hq hzl hI
      cases cut
      · have hst : (runL s0 (bs.take k)).2 = (sr, false) := Prod.ext (hRf.2.2 rfl) hRf.1
        cases b0
        · by_cases h8 : sr.size < 8
          · have t8 : decide ((sr.size : Int) < 8) = true := by simp; omega
            have hi1 : itm false (runL s0 (bs.take k)).2 = (⟨false, 0, ⟨#[]⟩⟩, (⟨#[]⟩, true)) := by
              rw [hst]; exact itm_int_short h8
            have hr1 : Hid ((runL s0 (bs.take (k + 1))).1 = zs ++ [⟨false, 0, ⟨#[]⟩⟩]) := by show _ = _; rw [htk, runL_snoc, hi1, hzs]
            have hr2 : Hid (RfS (runL s0 (bs.take (k + 1))).2 true sr) := by show RfS _ _ _; rw [htk, runL_snoc, hi1]; exact ⟨rfl, fun _ => rfl, fun h => absurd h (by decide)⟩
            clear hst hi1 hzs hRf htk hbe
            have HB := hidI (below_new hb (.cells #[.bool false, .int .i64 0, .string ⟨#[]⟩] 68))
            have hsz : w.heap.size ≤ (wr.alloc (.cells #[.bool false, .int .i64 0, .string ⟨#[]⟩] 68)).heap.size := HB.out.size
            have HO := hidI (hO.alloc (.cells #[.bool false, .int .i64 0, .string ⟨#[]⟩] 68))
            have q1 := hq2.out _ (below_new hb (.cells #[.bool false, .int .i64 0, .string ⟨#[]⟩] 68))
            have q2 := hq2.out _ HB.out
            clear hO hb
            go_wp2_with (first | (at_builtin; refine print_append_cells (w0 := w) (W := (wr.alloc (.cells #[.bool false, .int .i64 0, .string ⟨#[]⟩] 68))) w.heap.size rfl (.tmp 78) (.tmp 80) 61 68 (.agg #[.bool false, .int .i64 0, .string ⟨#[]⟩]) 3 32 rfl Try.underlying61 info68 rfl (by decide) (by decide) u6 zs.length (zs.flatMap A68.l) [.bool false, .int .i64 0, .string ⟨#[]⟩] (by rfl) (by first | (go_simp; done) | (go_simp; rfl)) rfl (by simp [Value.oneCell']) HO.out HB.out hsz (by omega) ?_; intro v5 w5 ho5 hb5 hg5 hat5) | fail | fail)
            have hfin : Hid (Own A68.l 3 68 w5 w.heap.size v5 (runL s0 (bs.take (k + 1))).1 ∧ Below w.heap.size w w5) := by
              show _ ∧ _
              rw [hr1.out]
              exact ⟨Own.snoc (p := (⟨false, 0, ⟨#[]⟩⟩ : A68)) ho5, hb5⟩
            clear ho5 hb5 hg5 hat5 HB HO hr1 q1 q2
            go_wp2
            go_roundw
            case rel => exact ⟨k + 1, by omega, by go_num, _, rfl, hss, _, rfl, hr2, hfin⟩
            case measure => simp [intOf]; omega
          · have h8' : 8 ≤ sr.size := by omega
            have t8 : decide ((sr.size : Int) < 8) = false := by simp; omega
            have hx8 : (sr.extract 8 sr.size).size ≤ 5000 := by rw [ByteArray.size_extract]; omega
            obtain ⟨vv, hvv⟩ : ∃ vv, vv = vI (bn (sr.extract 0 8)) := ⟨_, rfl⟩
            have hi1 : itm false (runL s0 (bs.take k)).2 = (⟨false, wrap64 (vI (bn (sr.extract 0 8))), ⟨#[]⟩⟩, (sr.extract 8 sr.size, false)) := by
              rw [hst]; exact itm_int h8'
            have hr1 : Hid ((runL s0 (bs.take (k + 1))).1 = zs ++ [⟨false, wrap64 (vI (bn (sr.extract 0 8))), ⟨#[]⟩⟩]) := by show _ = _; rw [htk, runL_snoc, hi1, hzs]
            have hr2 : Hid (RfS (runL s0 (bs.take (k + 1))).2 false (sr.extract 8 sr.size)) := by show RfS _ _ _; rw [htk, runL_snoc, hi1]; exact ⟨rfl, fun h => absurd h (by decide), fun _ => rfl⟩
            clear hst hi1 hzs hRf htk hbe
            have HB := hidI (below_new hb (.cells #[.bool false, .int .i64 (wrap64 (vI (bn (sr.extract 0 8)))), .string ⟨#[]⟩] 68))
            have hsz : w.heap.size ≤ (wr.alloc (.cells #[.bool false, .int .i64 (wrap64 (vI (bn (sr.extract 0 8)))), .string ⟨#[]⟩] 68)).heap.size := HB.out.size
            have HO := hidI (hO.alloc (.cells #[.bool false, .int .i64 (wrap64 (vI (bn (sr.extract 0 8)))), .string ⟨#[]⟩] 68))
            have q1 := hq2.out _ (below_new hb (.cells #[.bool false, .int .i64 0, .string ⟨#[]⟩] 68))
            have q2 := hq2.out _ HB.out
            clear hO hb
            go_wp2_with (first | (at_builtin; refine print_append_cells (w0 := w) (W := (wr.alloc (.cells #[.bool false, .int .i64 (wrap64 (vI (bn (sr.extract 0 8)))), .string ⟨#[]⟩] 68))) w.heap.size rfl (.tmp 78) (.tmp 80) 61 68 (.agg #[.bool false, .int .i64 0, .string ⟨#[]⟩]) 3 32 rfl Try.underlying61 info68 rfl (by decide) (by decide) u6 zs.length (zs.flatMap A68.l) [.bool false, .int .i64 (wrap64 (vI (bn (sr.extract 0 8)))), .string ⟨#[]⟩] (by rfl) (by first | (go_simp; done) | (go_simp; rfl)) rfl (by simp [Value.oneCell']) HO.out HB.out hsz (by omega) ?_; intro v5 w5 ho5 hb5 hg5 hat5) | (go_at_call 86; refine (rnumber_any _ _ (by rw [ByteArray.size_extract]; omega)).mono ?_; rintro e w' ⟨rfl, rfl⟩) | fail)
            have hfin : Hid (Own A68.l 3 68 w5 w.heap.size v5 (runL s0 (bs.take (k + 1))).1 ∧ Below w.heap.size w w5) := by
              show _ ∧ _
              rw [hr1.out]
              exact ⟨Own.snoc (p := (⟨false, wrap64 (vI (bn (sr.extract 0 8))), ⟨#[]⟩⟩ : A68)) ho5, hb5⟩
            clear ho5 hb5 hg5 hat5 HB HO hr1 q1 q2
            go_wp2
            go_roundw
            case rel => exact ⟨k + 1, by omega, by go_num, _, rfl, hx8, _, rfl, hr2, hfin⟩
            case measure => simp [intOf]; omega
        · by_cases h2 : sr.size < 2
          · have t2 : decide ((sr.size : Int) ≥ 2) = false := by simp; omega
            have t2b : decide (2 ≤ (sr.size : Int)) = false := by simp; omega
            have t3 : decide ((sr.size : Int) < 2) = true := by simp; omega
            have hi1 : itm true (runL s0 (bs.take k)).2 = (⟨true, 0, ⟨#[]⟩⟩, (⟨#[]⟩, true)) := by
              rw [hst]; exact itm_text_short h2
            have hr1 : Hid ((runL s0 (bs.take (k + 1))).1 = zs ++ [⟨true, 0, ⟨#[]⟩⟩]) := by show _ = _; rw [htk, runL_snoc, hi1, hzs]
            have hr2 : Hid (RfS (runL s0 (bs.take (k + 1))).2 true sr) := by show RfS _ _ _; rw [htk, runL_snoc, hi1]; exact ⟨rfl, fun _ => rfl, fun h => absurd h (by decide)⟩
            clear hst hi1 hzs hRf htk hbe
            have HB := hidI (below_new hb (.cells #[.bool true, .int .i64 0, .string ⟨#[]⟩] 68))
            have hsz : w.heap.size ≤ (wr.alloc (.cells #[.bool true, .int .i64 0, .string ⟨#[]⟩] 68)).heap.size := HB.out.size
            have HO := hidI (hO.alloc (.cells #[.bool true, .int .i64 0, .string ⟨#[]⟩] 68))
            have q1 := hq2.out _ (below_new hb (.cells #[.bool true, .int .i64 0, .string ⟨#[]⟩] 68))
            have q2 := hq2.out _ HB.out
            clear hO hb
            go_wp2_with (first | (at_builtin; refine print_append_cells (w0 := w) (W := (wr.alloc (.cells #[.bool true, .int .i64 0, .string ⟨#[]⟩] 68))) w.heap.size rfl (.tmp 78) (.tmp 80) 61 68 (.agg #[.bool false, .int .i64 0, .string ⟨#[]⟩]) 3 32 rfl Try.underlying61 info68 rfl (by decide) (by decide) u6 zs.length (zs.flatMap A68.l) [.bool true, .int .i64 0, .string ⟨#[]⟩] (by rfl) (by first | (go_simp; done) | (go_simp; rfl)) rfl (by simp [Value.oneCell']) HO.out HB.out hsz (by omega) ?_; intro v5 w5 ho5 hb5 hg5 hat5) | fail | fail)
            have hfin : Hid (Own A68.l 3 68 w5 w.heap.size v5 (runL s0 (bs.take (k + 1))).1 ∧ Below w.heap.size w w5) := by
              show _ ∧ _
              rw [hr1.out]
              exact ⟨Own.snoc (p := (⟨true, 0, ⟨#[]⟩⟩ : A68)) ho5, hb5⟩
            clear ho5 hb5 hg5 hat5 HB HO hr1 q1 q2
            go_wp2
            go_roundw
            case rel => exact ⟨k + 1, by omega, by go_num, _, rfl, hss, _, rfl, hr2, hfin⟩
            case measure => simp [intOf]; omega
          · have h2' : 2 ≤ sr.size := by omega
            obtain ⟨v, hv65, hv⟩ := vI2 h2'
            have HV := hidI hv
            have t2 : decide ((sr.size : Int) ≥ 2) = true := by simp; omega
            have t2b : decide (2 ≤ (sr.size : Int)) = true := by simp; omega
            by_cases hc : sr.size < 2 + v
            · have tc : decide ((sr.size : Int) < 2 + (v : Int)) = true := by simp; omega
              have hi1 : itm true (runL s0 (bs.take k)).2 = (⟨true, 0, ⟨#[]⟩⟩, (⟨#[]⟩, true)) := by
                rw [hst]; exact itm_text_cut h2' hv hc
              have hr1 : Hid ((runL s0 (bs.take (k + 1))).1 = zs ++ [⟨true, 0, ⟨#[]⟩⟩]) := by show _ = _; rw [htk, runL_snoc, hi1, hzs]
              have hr2 : Hid (RfS (runL s0 (bs.take (k + 1))).2 true sr) := by show RfS _ _ _; rw [htk, runL_snoc, hi1]; exact ⟨rfl, fun _ => rfl, fun h => absurd h (by decide)⟩
              clear hst hv hi1 hzs hRf htk hbe
              have HB := hidI (below_new hb (.cells #[.bool true, .int .i64 0, .string ⟨#[]⟩] 68))
              have hsz : w.heap.size ≤ (wr.alloc (.cells #[.bool true, .int .i64 0, .string ⟨#[]⟩] 68)).heap.size := HB.out.size
              have HO := hidI (hO.alloc (.cells #[.bool true, .int .i64 0, .string ⟨#[]⟩] 68))
              have q1 := hq2.out _ (below_new hb (.cells #[.bool true, .int .i64 0, .string ⟨#[]⟩] 68))
              have q2 := hq2.out _ HB.out
              clear hO hb
              go_wp2_with (first | (at_builtin; refine print_append_cells (w0 := w) (W := (wr.alloc (.cells #[.bool true, .int .i64 0, .string ⟨#[]⟩] 68))) w.heap.size rfl (.tmp 78) (.tmp 80) 61 68 (.agg #[.bool false, .int .i64 0, .string ⟨#[]⟩]) 3 32 rfl Try.underlying61 info68 rfl (by decide) (by decide) u6 zs.length (zs.flatMap A68.l) [.bool true, .int .i64 0, .string ⟨#[]⟩] (by rfl) (by first | (go_simp; done) | (go_simp; rfl)) rfl (by simp [Value.oneCell']) HO.out HB.out hsz (by omega) ?_; intro v5 w5 ho5 hb5 hg5 hat5) | (go_at_call 86; refine (rnumber_any _ _ (by rw [ByteArray.size_extract]; omega)).mono ?_; rintro e w' ⟨rfl, rfl⟩; rw [HV.out]) | fail)
              have hfin : Hid (Own A68.l 3 68 w5 w.heap.size v5 (runL s0 (bs.take (k + 1))).1 ∧ Below w.heap.size w w5) := by
                show _ ∧ _
                rw [hr1.out]
                exact ⟨Own.snoc (p := (⟨true, 0, ⟨#[]⟩⟩ : A68)) ho5, hb5⟩
              clear ho5 hb5 hg5 hat5 HB HO hr1 q1 q2
              go_wp2
              go_roundw
              case rel => exact ⟨k + 1, by omega, by go_num, _, rfl, hss, _, rfl, hr2, hfin⟩
              case measure => simp [intOf]; omega
            · have hc' : 2 + v ≤ sr.size := by omega
              have tc : decide ((sr.size : Int) < 2 + (v : Int)) = false := by simp; omega
              have hx8 : (sr.extract (2 + v) sr.size).size ≤ 5000 := by rw [ByteArray.size_extract]; omega
              have hi1 : itm true (runL s0 (bs.take k)).2 = (⟨true, 0, sr.extract 2 (2 + v)⟩, (sr.extract (2 + v) sr.size, false)) := by
                rw [hst]; exact itm_text h2' hv hc'
              have hr1 : Hid ((runL s0 (bs.take (k + 1))).1 = zs ++ [⟨true, 0, sr.extract 2 (2 + v)⟩]) := by show _ = _; rw [htk, runL_snoc, hi1, hzs]
              have hr2 : Hid (RfS (runL s0 (bs.take (k + 1))).2 false (sr.extract (2 + v) sr.size)) := by show RfS _ _ _; rw [htk, runL_snoc, hi1]; exact ⟨rfl, fun h => absurd h (by decide), fun _ => rfl⟩
              clear hst hv hi1 hzs hRf htk hbe
              have HB := hidI (below_new hb (.cells #[.bool true, .int .i64 0, .string (sr.extract 2 (2 + v))] 68))
              have hsz : w.heap.size ≤ (wr.alloc (.cells #[.bool true, .int .i64 0, .string (sr.extract 2 (2 + v))] 68)).heap.size := HB.out.size
              have HO := hidI (hO.alloc (.cells #[.bool true, .int .i64 0, .string (sr.extract 2 (2 + v))] 68))
              have q1 := hq2.out _ (below_new hb (.cells #[.bool true, .int .i64 0, .string ⟨#[]⟩] 68))
              have q2 := hq2.out _ HB.out
              clear hO hb
              go_wp2_with (first | (at_builtin; refine print_append_cells (w0 := w) (W := (wr.alloc (.cells #[.bool true, .int .i64 0, .string (sr.extract 2 (2 + v))] 68))) w.heap.size rfl (.tmp 78) (.tmp 80) 61 68 (.agg #[.bool false, .int .i64 0, .string ⟨#[]⟩]) 3 32 rfl Try.underlying61 info68 rfl (by decide) (by decide) u6 zs.length (zs.flatMap A68.l) [.bool true, .int .i64 0, .string (sr.extract 2 (2 + v))] (by rfl) (by first | (go_simp; done) | (go_simp; rfl)) rfl (by simp [Value.oneCell']) HO.out HB.out hsz (by omega) ?_; intro v5 w5 ho5 hb5 hg5 hat5) | (go_at_call 86; refine (rnumber_any _ _ (by rw [ByteArray.size_extract]; omega)).mono ?_; rintro e w' ⟨rfl, rfl⟩; rw [HV.out]) | fail)
              have hfin : Hid (Own A68.l 3 68 w5 w.heap.size v5 (runL s0 (bs.take (k + 1))).1 ∧ Below w.heap.size w w5) := by
                show _ ∧ _
                rw [hr1.out]
                exact ⟨Own.snoc (p := (⟨true, 0, sr.extract 2 (2 + v)⟩ : A68)) ho5, hb5⟩
              clear ho5 hb5 hg5 hat5 HB HO hr1 q1 q2
              go_wp2
              go_roundw
              case rel => exact ⟨k + 1, by omega, by go_num, _, rfl, hx8, _, rfl, hr2, hfin⟩
              case measure => simp [intOf]; omega
      · have hst : (runL s0 (bs.take k)).2 = (⟨#[]⟩, true) := Prod.ext (hRf.2.1 rfl) hRf.1
        cases b0
        · have hi1 : itm false (runL s0 (bs.take k)).2 = (⟨false, 0, ⟨#[]⟩⟩, (⟨#[]⟩, true)) := by
            rw [hst]; exact itm_cut _
          have hr1 : Hid ((runL s0 (bs.take (k + 1))).1 = zs ++ [⟨false, 0, ⟨#[]⟩⟩]) := by show _ = _; rw [htk, runL_snoc, hi1, hzs]
          have hr2 : Hid (RfS (runL s0 (bs.take (k + 1))).2 true sr) := by show RfS _ _ _; rw [htk, runL_snoc, hi1]; exact ⟨rfl, fun _ => rfl, fun h => absurd h (by decide)⟩
          clear hst hi1 hzs hRf htk hbe
          have HB := hidI (below_new hb (.cells #[.bool false, .int .i64 0, .string ⟨#[]⟩] 68))
          have hsz : w.heap.size ≤ (wr.alloc (.cells #[.bool false, .int .i64 0, .string ⟨#[]⟩] 68)).heap.size := HB.out.size
          have HO := hidI (hO.alloc (.cells #[.bool false, .int .i64 0, .string ⟨#[]⟩] 68))
          have q1 := hq2.out _ (below_new hb (.cells #[.bool false, .int .i64 0, .string ⟨#[]⟩] 68))
          have q2 := hq2.out _ HB.out
          clear hO hb
          go_wp2_with (first | (at_builtin; refine print_append_cells (w0 := w) (W := (wr.alloc (.cells #[.bool false, .int .i64 0, .string ⟨#[]⟩] 68))) w.heap.size rfl (.tmp 78) (.tmp 80) 61 68 (.agg #[.bool false, .int .i64 0, .string ⟨#[]⟩]) 3 32 rfl Try.underlying61 info68 rfl (by decide) (by decide) u6 zs.length (zs.flatMap A68.l) [.bool false, .int .i64 0, .string ⟨#[]⟩] (by rfl) (by first | (go_simp; done) | (go_simp; rfl)) rfl (by simp [Value.oneCell']) HO.out HB.out hsz (by omega) ?_; intro v5 w5 ho5 hb5 hg5 hat5) | fail | fail)
          have hfin : Hid (Own A68.l 3 68 w5 w.heap.size v5 (runL s0 (bs.take (k + 1))).1 ∧ Below w.heap.size w w5) := by
            show _ ∧ _
            rw [hr1.out]
            exact ⟨Own.snoc (p := (⟨false, 0, ⟨#[]⟩⟩ : A68)) ho5, hb5⟩
          clear ho5 hb5 hg5 hat5 HB HO hr1 q1 q2
          go_wp2
          go_roundw
          case rel => exact ⟨k + 1, by omega, by go_num, _, rfl, hss, _, rfl, hr2, hfin⟩
          case measure => simp [intOf]; omega
        · by_cases h2 : sr.size < 2
          · have t2 : decide ((sr.size : Int) ≥ 2) = false := by simp; omega
            have t2b : decide (2 ≤ (sr.size : Int)) = false := by simp; omega
            have t3 : decide ((sr.size : Int) < 2) = true := by simp; omega
            have hi1 : itm true (runL s0 (bs.take k)).2 = (⟨true, 0, ⟨#[]⟩⟩, (⟨#[]⟩, true)) := by
              rw [hst]; exact itm_cut _
            have hr1 : Hid ((runL s0 (bs.take (k + 1))).1 = zs ++ [⟨true, 0, ⟨#[]⟩⟩]) := by show _ = _; rw [htk, runL_snoc, hi1, hzs]
            have hr2 : Hid (RfS (runL s0 (bs.take (k + 1))).2 true sr) := by show RfS _ _ _; rw [htk, runL_snoc, hi1]; exact ⟨rfl, fun _ => rfl, fun h => absurd h (by decide)⟩
            clear hst hi1 hzs hRf htk hbe
            have HB := hidI (below_new hb (.cells #[.bool true, .int .i64 0, .string ⟨#[]⟩] 68))
            have hsz : w.heap.size ≤ (wr.alloc (.cells #[.bool true, .int .i64 0, .string ⟨#[]⟩] 68)).heap.size := HB.out.size
            have HO := hidI (hO.alloc (.cells #[.bool true, .int .i64 0, .string ⟨#[]⟩] 68))
            have q1 := hq2.out _ (below_new hb (.cells #[.bool true, .int .i64 0, .string ⟨#[]⟩] 68))
            have q2 := hq2.out _ HB.out
            clear hO hb
            go_wp2_with (first | (at_builtin; refine print_append_cells (w0 := w) (W := (wr.alloc (.cells #[.bool true, .int .i64 0, .string ⟨#[]⟩] 68))) w.heap.size rfl (.tmp 78) (.tmp 80) 61 68 (.agg #[.bool false, .int .i64 0, .string ⟨#[]⟩]) 3 32 rfl Try.underlying61 info68 rfl (by decide) (by decide) u6 zs.length (zs.flatMap A68.l) [.bool true, .int .i64 0, .string ⟨#[]⟩] (by rfl) (by first | (go_simp; done) | (go_simp; rfl)) rfl (by simp [Value.oneCell']) HO.out HB.out hsz (by omega) ?_; intro v5 w5 ho5 hb5 hg5 hat5) | fail | fail)
            have hfin : Hid (Own A68.l 3 68 w5 w.heap.size v5 (runL s0 (bs.take (k + 1))).1 ∧ Below w.heap.size w w5) := by
              show _ ∧ _
              rw [hr1.out]
              exact ⟨Own.snoc (p := (⟨true, 0, ⟨#[]⟩⟩ : A68)) ho5, hb5⟩
            clear ho5 hb5 hg5 hat5 HB HO hr1 q1 q2
            go_wp2
            go_roundw
            case rel => exact ⟨k + 1, by omega, by go_num, _, rfl, hss, _, rfl, hr2, hfin⟩
            case measure => simp [intOf]; omega
          · have h2' : 2 ≤ sr.size := by omega
            obtain ⟨v, hv65, hv⟩ := vI2 h2'
            have HV := hidI hv
            have t2 : decide ((sr.size : Int) ≥ 2) = true := by simp; omega
            have t2b : decide (2 ≤ (sr.size : Int)) = true := by simp; omega
            have hi1 : itm true (runL s0 (bs.take k)).2 = (⟨true, 0, ⟨#[]⟩⟩, (⟨#[]⟩, true)) := by
              rw [hst]; exact itm_cut _
            have hr1 : Hid ((runL s0 (bs.take (k + 1))).1 = zs ++ [⟨true, 0, ⟨#[]⟩⟩]) := by show _ = _; rw [htk, runL_snoc, hi1, hzs]
            have hr2 : Hid (RfS (runL s0 (bs.take (k + 1))).2 true sr) := by show RfS _ _ _; rw [htk, runL_snoc, hi1]; exact ⟨rfl, fun _ => rfl, fun h => absurd h (by decide)⟩
            clear hst hv hi1 hzs hRf htk hbe
            have HB := hidI (below_new hb (.cells #[.bool true, .int .i64 0, .string ⟨#[]⟩] 68))
            have hsz : w.heap.size ≤ (wr.alloc (.cells #[.bool true, .int .i64 0, .string ⟨#[]⟩] 68)).heap.size := HB.out.size
            have HO := hidI (hO.alloc (.cells #[.bool true, .int .i64 0, .string ⟨#[]⟩] 68))
            have q1 := hq2.out _ (below_new hb (.cells #[.bool true, .int .i64 0, .string ⟨#[]⟩] 68))
            have q2 := hq2.out _ HB.out
            clear hO hb
            go_wp2_with (first | (at_builtin; refine print_append_cells (w0 := w) (W := (wr.alloc (.cells #[.bool true, .int .i64 0, .string ⟨#[]⟩] 68))) w.heap.size rfl (.tmp 78) (.tmp 80) 61 68 (.agg #[.bool false, .int .i64 0, .string ⟨#[]⟩]) 3 32 rfl Try.underlying61 info68 rfl (by decide) (by decide) u6 zs.length (zs.flatMap A68.l) [.bool true, .int .i64 0, .string ⟨#[]⟩] (by rfl) (by first | (go_simp; done) | (go_simp; rfl)) rfl (by simp [Value.oneCell']) HO.out HB.out hsz (by omega) ?_; intro v5 w5 ho5 hb5 hg5 hat5) | (go_at_call 86; refine (rnumber_any _ _ (by rw [ByteArray.size_extract]; omega)).mono ?_; rintro e w' ⟨rfl, rfl⟩; rw [HV.out]) | fail)
            have hfin : Hid (Own A68.l 3 68 w5 w.heap.size v5 (runL s0 (bs.take (k + 1))).1 ∧ Below w.heap.size w w5) := by
              show _ ∧ _
              rw [hr1.out]
              exact ⟨Own.snoc (p := (⟨true, 0, ⟨#[]⟩⟩ : A68)) ho5, hb5⟩
            clear ho5 hb5 hg5 hat5 HB HO hr1 q1 q2
            go_wp2
            go_roundw
            case rel => exact ⟨k + 1, by omega, by go_num, _, rfl, hss, _, rfl, hr2, hfin⟩
            case measure => simp [intOf]; omega
    · have e : k = bs.length := by omega
      have hRf := hRf.out
      rw [e, List.take_length] at hRf hO
      clear e hI
      cases cut
      · have e1 : (runL s0 bs).2.2 = false := hRf.1
        have e2 : (runL s0 bs).2.1 = sr := hRf.2.2 rfl
        by_cases h0 : sr.size = 0
        · have hfin : Hid (TkP s0 bs w (.returned (.tuple #[u6, .int .i64 0])) wr) := ⟨u6, by rw [e1, e2]; simp [h0], hO, hb⟩
          have ht := toList_nil_of_size h0
          clear e1 e2 hRf hO hb
          go_wp2
          go_ret2
          exact hfin.out
        · have hfin : Hid (TkP s0 bs w (.returned (.tuple #[u6, .int .i64 2])) wr) := ⟨u6, by rw [e1, e2]; simp [h0], hO, hb⟩
          have hne := toList_ne h0
          clear e1 e2 hRf hO hb
          go_wp2
          go_ret2
          exact hfin.out
      · have e1 : (runL s0 bs).2.2 = true := hRf.1
        have hfin : Hid (TkP s0 bs w (.returned (.tuple #[u6, .int .i64 1])) wr) := ⟨u6, by rw [e1]; simp, hO, hb⟩
        clear e1 hRf hO hb
        go_wp2
        go_ret2
        exact hfin.out
end Go.Proofs.Ytliacfjdenfldaa
