/- What the statement leans on, part 5: functions of the program and of the reference as Lean functions, their contracts, and plain laws. -/
import Derived.Laws.StructEq
import Derived.Shelf.SlGeneric
import Derived.Shelf.SlSortCmp.InsertionK
import Derived.Ground.SlsfProg
import Derived.MapKept
import Derived.Carry
import Derived.Maps.OwnSet
import Derived.ChangeSlices
import Derived.Test.YtncnhhnbjmpomaaMCT4
namespace Go.Proofs.Ytncnhhnbjmpomaa
open Go.RowKit Go.Proofs.Ytncnhhnbjmpomaa.Q Go.Proofs.Kq
open Go.Proofs.YtncnhhnbjmpomaaW.PrintWords (pw_cell_below step_append_cells print_append_cells Kd Kd.C Kd.C_below Drawn0 encs encs_length encs_append)
open Go.Proofs.YtncnhhnbjmpomaaW.PrintLast
set_option linter.unusedVariables false
set_option linter.unusedSimpArgs false
theorem info87 : (Try.prog.info? 87).map (fun i => (i.zero, i.size, i.bytes)) = some (some (.slice none 0 0), 1, 24) := by kernel_rfl
def lv (v : Value) : List Value := [v]
def Rows (w : World) (base : Nat) (rs : List Value) (f : Nat → Option Nat) : Prop := ∀ i (h : i < rs.length), match f i with
  | none => rs[i] = .slice none 0 0
  | some n => ∃ xs, Kd.R Kd.bool 4 w base (fun _ => True) rs[i] xs ∧ val xs = n ∧ xs.length ≤ 100000
theorem Rows.below {w w1 : World} {base : Nat} {rs : List Value} {f : Nat → Option Nat} (h : Rows w base rs f) (hb : Below w.heap.size w w1) : Rows w1 base rs f := by
  intro i hi
  have := h i hi
  split at this
  · exact this
  · obtain ⟨xs, h1, h2⟩ := this
    exact ⟨xs, Kd.R_below h1 hb, h2⟩
theorem Rows.set {w : World} {base : Nat} {rs : List Value} {f : Nat → Option Nat} (h : Rows w base rs f) {g t : Nat} {cells : Array Value} (hb : w.heap[g]? = some (.cells cells t (0, 0))) (ht : 4 ≠ t) (j : Nat) (u : Value) : Rows (w.setCell ⟨g, j, Option.none⟩ u) base rs f := by
  intro i hi
  have := h i hi
  split at this
  · exact this
  · obtain ⟨xs, h1, h2⟩ := this
    exact ⟨xs, Kd.R_set h1 hb (by intro q hq; rcases List.mem_cons.1 hq with rfl | hq <;> first | exact ht | cases hq) j u, h2⟩
theorem Rows.snoc {w : World} {base : Nat} {rs : List Value} {f : Nat → Option Nat} (h : Rows w base rs f) {v : Value} {xs : List Bool} (hv : Kd.R Kd.bool 4 w base (fun _ => True) v xs) (hf : f rs.length = some (val xs)) (hl : xs.length ≤ 100000) : Rows w base (rs ++ [v]) f := by
  intro i hi
  by_cases h1 : i < rs.length
  · have := h i h1
    rw [List.getElem_append_left h1]; exact this
  · obtain rfl : i = rs.length := by simp at hi; omega
    simp only [hf, List.getElem_concat_length]
    exact ⟨xs, hv, rfl, hl⟩
theorem bt_grown {w w1 : World} {base : Nat} {v : Value} {xs : List Bool} (h : Kd.R Kd.bool 4 w base (fun _ => True) v xs) {α : Type} {l : α → List Value} {sz e base' : Nat} {u : Value} {ys : List α} (hO : Own l sz e w base' u ys) (he : 4 ≠ e)
    (hg : ∀ k, k < w.heap.size → some k ≠ u.ownBlock → w1.heap[k]? = w.heap[k]?) : Kd.R Kd.bool 4 w1 base (fun _ => True) v xs := by
  have ho := Kd.own_of_R h
  refine Kd.R_of_own (Go.Proofs.YtncnhhnbjmpomaaW.PrintWords.own_move ho fun k hk => hg k (Go.Proofs.YtncnhhnbjmpomaaW.PrintWords.own_lt ho k hk) fun hu => ?_) (fun _ _ => trivial)
  obtain ⟨c1, h1⟩ := Go.Proofs.YtncnhhnbjmpomaaW.PrintWords.own_typed ho k hk
  obtain ⟨c2, h2⟩ := hO.at_ hu.symm
  rw [h1] at h2
  injection h2 with h2
  injection h2 with _ h2
  exact he h2
theorem Rows.grown {w w1 : World} {base : Nat} {rs : List Value} {f : Nat → Option Nat} (h : Rows w base rs f) {α : Type} {l : α → List Value} {sz e base' : Nat} {u : Value} {ys : List α} (hO : Own l sz e w base' u ys) (he : 4 ≠ e)
    (hg : ∀ k, k < w.heap.size → some k ≠ u.ownBlock → w1.heap[k]? = w.heap[k]?) : Rows w1 base rs f := by
  intro i hi
  have := h i hi
  split at this
  · exact this
  · obtain ⟨xs, h1, h2⟩ := this
    exact ⟨xs, bt_grown h1 hO he hg, h2⟩
theorem natq (t x a : Int) (h1 : 0 ≤ t) (h2 : 0 ≤ x) (h3 : 0 ≤ a) : ((t.natAbs * x.natAbs / a.natAbs : Nat) : Int) = t * x / a := by
  obtain ⟨t, rfl⟩ := Int.eq_ofNat_of_zero_le h1
  obtain ⟨x, rfl⟩ := Int.eq_ofNat_of_zero_le h2
  obtain ⟨a, rfl⟩ := Int.eq_ofNat_of_zero_le h3
  simp
theorem natr (t x a : Int) (h1 : 0 ≤ t) (h2 : 0 ≤ x) (h3 : 0 ≤ a) : t.natAbs * x.natAbs % a.natAbs = (t * x % a).toNat := by
  obtain ⟨t, rfl⟩ := Int.eq_ofNat_of_zero_le h1
  obtain ⟨x, rfl⟩ := Int.eq_ofNat_of_zero_le h2
  obtain ⟨a, rfl⟩ := Int.eq_ofNat_of_zero_le h3
  simp only [Int.natAbs_natCast]
  rw [← Int.natCast_mul, ← Int.natCast_emod, Int.toNat_natCast]
theorem flat_lv : ∀ rs : List Value, rs.flatMap lv = rs
  | [] => rfl
  | r :: rs => by simp [lv, flat_lv rs]
def RS (t : Int) (ws : List Int) (w w' : World) (v9 v10 : Value) (k : Nat) : Prop :=
  Own li 1 2 w' w.heap.size v9 (quosF t ws.sum (ws.take k)) ∧ (∃ rs : List Value, rs.length = k ∧ Own lv 1 87 w' w.heap.size v10 rs ∧ Rows w' w.heap.size rs (fun i => some (rvF t ws i).toNat)) ∧ Below w.heap.size w w'
theorem ownv_cell {w : World} {base g n c : Nat} {xs : List Value} (h : Own lv 1 87 w base (.slice (some ⟨g, 0, Option.none⟩) n c) xs) (i : Nat) (hi : i < xs.length) :
    w.cell? ⟨g, i, Option.none⟩ = some xs[i] ∧ w.frozen? ⟨g, i, Option.none⟩ = false := by
  rcases h.2 with ⟨h2, _⟩ | ⟨g', cap', cur, e, hg, hh, hn, hm, hcs, hcur⟩
  · cases h2
  · injection e with e1 e2 e3
    injection e1 with e1
    injection e1 with e1 _ _
    subst e1
    rw [flat_lv] at hcur
    have hc : cur[i]? = some xs[i] := by
      rw [← Array.getElem?_toList]
      have h1 : (cur.toList.take (xs.length * 1))[i]? = some xs[i] := by rw [hcur]; exact List.getElem?_eq_getElem hi
      rwa [List.getElem?_take_of_lt (by omega)] at h1
    exact ⟨by simp [World.cell?, hh, hc], by simp [World.frozen?, hh]⟩
open Classical in
noncomputable def PKf (t : Int) (ws : List Int) (j i : Nat) : Option Nat := if alive t ws j i then some (rvF t ws i).toNat else none
def PK (t : Int) (ws : List Int) (w w' : World) (g9 c9 g10 c10 : Nat) (j : Nat) (qs : List Int) : Prop :=
  Own li 1 2 w' w.heap.size (.slice (some ⟨g9, 0, Option.none⟩) ws.length c9) (bump qs ((ordF t ws).take j)) ∧ (∃ rs : List Value, rs.length = ws.length ∧ Own lv 1 87 w' w.heap.size (.slice (some ⟨g10, 0, Option.none⟩) ws.length c10) rs ∧ Rows w' w.heap.size rs (PKf t ws j)) ∧ Below w.heap.size w w'
theorem rows_next {t : Int} {ws : List Int} {w : World} {base j b : Nat} {rs : List Value} (hjl : j < (ordF t ws).length) (he : (ordF t ws)[j] = ⟨(b : Int), rvF t ws b⟩) (h : Rows w base rs (PKf t ws j)) : Rows w base (rs.set b (.slice Option.none 0 0)) (PKf t ws (j + 1)) := by
  intro i hi
  have hi2 : i < rs.length := by simpa using hi
  have h2 := h i hi2
  have ha := alive_succ t ws j b i hjl he
  by_cases e : i = b
  · subst e
    have hn : ¬ alive t ws (j + 1) i := fun hh => (ha.1 hh).2 rfl
    unfold PKf
    rw [if_neg hn]
    simp
  · have hs : (rs.set b (.slice Option.none 0 0))[i] = rs[i] := List.getElem_set_ne (fun h => e h.symm) _
    rw [hs]
    unfold PKf at h2 ⊢
    by_cases hal : alive t ws j i
    · rw [if_pos hal] at h2
      rw [if_pos (ha.2 ⟨hal, e⟩)]
      exact h2
    · rw [if_neg hal] at h2
      rw [if_neg (fun hh => hal (ha.1 hh).1)]
      exact h2
theorem ownv_set {w : World} {base g n c : Nat} {xs : List Value} (h : Own lv 1 87 w base (.slice (some ⟨g, 0, Option.none⟩) n c) xs) (i : Nat) (hi : i < xs.length) (v : Value) (hv : v.oneCell' = true) :
    Own lv 1 87 (w.setCell ⟨g, i, Option.none⟩ v) base (.slice (some ⟨g, 0, Option.none⟩) n c) (xs.set i v) := by
  rcases h.2 with ⟨h2, _⟩ | ⟨g', cap', cur, e, hg, hh, hn, hm, hcs, hcur⟩
  · cases h2
  · injection e with e1 e2 e3
    injection e1 with e1
    injection e1 with e1 _ _
    subst e1 e2 e3
    refine ⟨by rw [flat_lv]; simp, .inr ⟨g, c, cur.setIfInBounds i v, by simp, hg, ?_, by simpa using hn, hm, by simpa using hcs, ?_⟩⟩
    · simp only [World.setCell, Array.getElem?_modify, if_true, hh]
      rfl
    · rw [flat_lv, Nat.mul_one] at hcur
      rw [flat_lv, List.length_set, Nat.mul_one, Array.toList_setIfInBounds, List.take_set, hcur]
theorem PK.below {t : Int} {ws : List Int} {w w1 w2 : World} {g9 c9 g10 c10 j : Nat} {qs : List Int} (h : PK t ws w w1 g9 c9 g10 c10 j qs) (hb : Below w1.heap.size w1 w2) : PK t ws w w2 g9 c9 g10 c10 j qs := by
  obtain ⟨a, ⟨rs, b, c, d⟩, e⟩ := h
  exact ⟨a.below hb, ⟨rs, b, c.below hb, d.below hb⟩, below_step e hb⟩
theorem drew_b (w : World) : Below w.heap.size w w.drew := ⟨rfl, rfl, rfl, Nat.le_refl _, fun _ _ => rfl⟩
set_option maxRecDepth 100000 in
set_option maxHeartbeats 8000000 in
theorem rsplit_any (t : Int) (A0 : Option Addr) (c0 : Nat) (ws : List Int) (w : World) (hr0 : Kd.C (Kd.int .i64) w A0 ws.length ws) (hc0 : ws.length ≤ c0) (h20 : ws.length ≤ 1000) (hw : ∀ x ∈ ws, inR x) (ht : inR t) :
    Calls Try.prog 21 #[.int .i64 t, .slice A0 ws.length c0] w (SplitP t ws w) := by
  have HR := hidI hr0
  have HW := hidI hw
  have HT := hidI ht
  have H1 := hidI (sum_c A0 c0 ws)
  have hF : ∀ (c : Int) (w' : World), splitF t ws = ([], c) → Below w.heap.size w w' → SplitP t ws w (.returned (.tuple #[.slice none 0 0, .int .i64 c])) w' := fun c w' h hb => ⟨.slice none 0 0, by rw [h], by rw [h]; exact ⟨rfl, .inl ⟨rfl, rfl⟩⟩, hb⟩
  have HF := hidI hF
  clear hr0 hw ht hF
  go_enter Try.func21, Try.ntmps21
  go_wp2
  go_loopw [6] (fun i wr => ∃ k : Nat, k ≤ ws.length ∧ i = .int .i64 k ∧ w = wr ∧ Hid (∀ j (h : j < ws.length), j < k → 0 ≤ ws[j])) (fun i _ => ws.length - (intOf i).toNat)
  case atStart => exact ⟨0, Nat.zero_le _, rfl, rfl, fun _ _ h => absurd h (by omega)⟩
  case round =>
    obtain ⟨k, hk, rfl, rfl, HI⟩ := hrel
    by_cases hlt : k < ws.length
    · obtain ⟨b, off, hA, hc⟩ := C_ints HR.out (by omega)
      subst hA
      obtain ⟨x, hx⟩ : ∃ x, x = ws[k] := ⟨_, rfl⟩
      have q0 := hc k hlt
      rw [← hx] at q0
      have HX := hidI hx
      clear hc hx
      by_cases h0 : x < 0
      · have hfin := HF.out 1 w (by
          unfold splitF
          by_cases ht0 : t < 0
          · rw [if_pos ht0]
          · rw [if_neg ht0, if_pos]
            exact List.any_eq_true.2 ⟨ws[k], List.getElem_mem hlt, by rw [← HX.out]; simpa using h0⟩) (Below.refl _ _)
        have HFI := hidI hfin
        clear hfin
        go_wp2
        go_ret2
        exact HFI.out
      · go_wp2
        go_roundw
        case rel =>
          refine ⟨k + 1, by omega, by go_num, by first | rfl | trivial, ?_⟩
          show ∀ j (h : j < ws.length), j < k + 1 → 0 ≤ ws[j]
          intro j hj hj2
          by_cases e : j = k
          · subst e; rw [← HX.out]; omega
          · exact HI.out j hj (by omega)
        case measure => simp [intOf]; omega
    · obtain rfl : k = ws.length := by omega
      have hnn : ∀ x ∈ ws, 0 ≤ x := by
        intro x hx
        obtain ⟨j, hj, rfl⟩ := List.getElem_of_mem hx
        exact HI.out j hj hj
      clear HI hk hlt
      have hany : ws.any (fun n => decide (n < 0)) = false := by
        rw [List.any_eq_false]
        intro x hx
        have := hnn x hx
        simp; omega
      have ha := addF_nn ws 0 (Int.le_refl _) hnn (by decide)
      rw [Int.zero_add] at ha
      have hst : Hid (splitF t ws = if t < 0 then ([], 1) else if ¬ (ws.sum ≤ 9223372036854775807) then ([], 2) else if ws.sum = 0 then ([], 1) else (partsF t ws, 0)) := by
        show _ = _
        unfold splitF
        rw [hany]; simp
      have hs0 := sum_nn ws hnn
      have HNN := hidI hnn
      clear hnn hany
      have hs : Hid (∀ w, Kd.C (Kd.int .i64) w A0 ws.length ws → Calls Try.prog 14 #[.slice A0 ws.length c0] w fun e w' => e = .returned (.tuple #[.int .i64 (sumR (addF 0 ws)).1, .bool (sumR (addF 0 ws)).2]) ∧ Drawn0 w w') := fun w h => H1.out w h hc0 HW.out (by omega)
      clear H1
      by_cases hov : ws.sum ≤ 9223372036854775807
      · rw [if_pos hov] at ha
        have e : sumR (addF 0 ws) = (ws.sum, true) := by rw [ha]; rfl
        rw [e] at hs
        clear ha e
        obtain ⟨all, hall⟩ : ∃ all, all = ws.sum := ⟨_, rfl⟩
        rw [← hall] at hs hov hs0 hst
        have HALL := hidI hall
        clear hall
        by_cases ht0 : t < 0
        · have hfin := hidI (fun n => HF.out 1 (w.drewN n) (by rw [hst.out, if_pos ht0]) (below_drN _ n))
          clear hst HF
          go_wp2_with fail
          refine (hs.out _ HR.out).mono ?_
          rintro e w' ⟨rfl, ⟨n, rfl⟩⟩
          simp only []
          go_wp2
          go_ret2
          exact hfin.out n
        by_cases ha0 : all = 0
        · have hfin := hidI (fun n => HF.out 1 (w.drewN n) (by rw [hst.out, if_neg ht0, if_neg (by omega), if_pos ha0]) (below_drN _ n))
          clear hst HF HALL
          subst ha0
          go_wp2_with fail
          refine (hs.out _ HR.out).mono ?_
          rintro e w' ⟨rfl, ⟨n, rfl⟩⟩
          simp only []
          go_wp2
          go_ret2
          exact hfin.out n
        · have ha1 : 0 < all := by omega
          have HAR : Hid (inR all) := ⟨by omega, hov⟩
          have HAP := hidI ha1
          have htn : 0 ≤ t := by omega
          have hmem := mem_le_sum ws HNN.out
          have HM := hidI hmem
          rw [if_neg ht0, if_neg (by omega), if_neg ha0] at hst
          clear hmem HF
          have hne2 : (all == 0) = false := beq_eq_false_iff_ne.2 ha0
          have htd : decide (t < 0) = false := by simpa using ht0
          go_wp2_with fail
          refine (hs.out _ HR.out).mono ?_
          rintro e w' ⟨rfl, ⟨n, rfl⟩⟩
          simp only []
          clear hs
          go_wp2
          go_loopw [9, 10, 11, 12] (fun v9 v10 l i w2 => ∃ k : Nat, k ≤ ws.length ∧ i = .int .i64 k ∧ l = .int .i64 (leftF t all (ws.take k)) ∧ Hid (RS t ws w w2 v9 v10 k)) (fun _ _ _ i _ => ws.length - (intOf i).toNat)
          case atStart => exact ⟨0, Nat.zero_le _, rfl, by simp [leftF, quosF], ⟨Own.nil _ _ _ _ _, ⟨[], rfl, Own.nil _ _ _ _ _, fun i h => by cases h⟩, below_drN w _⟩⟩
          case round =>
            obtain ⟨k, hk, rfl, rfl, HI⟩ := hrel
            by_cases hlt : k < ws.length
            · obtain ⟨b, off, hA, hc⟩ := C_ints HR.out (by omega)
              subst hA
              have q0 : wr.cell? ⟨b, off + k, none⟩ = some (.int .i64 ws[k]) := pw_cell_below HI.out.2.2 (hc k hlt)
              have hx0 : 0 ≤ ws[k] := HNN.out _ (List.getElem_mem hlt)
              have hxa : ws[k] ≤ all := by have := HM.out _ (List.getElem_mem hlt); have := HALL.out; omega
              have hxr := HW.out _ (List.getElem_mem hlt)
              have hrv : rvF t ws k = t * ws[k] % all := by
                unfold rvF
                rw [List.getD_eq_getElem?_getD, List.getElem?_eq_getElem hlt, ← HALL.out]; rfl
              obtain ⟨x, hx⟩ : ∃ x, x = ws[k] := ⟨_, rfl⟩
              rw [← hx] at q0 hx0 hxa hxr hrv
              have HX := hidI hx
              have HXR := hidI hxr
              have hlk := left_take t ws k htn HNN.out (by rw [← HALL.out]; exact HAP.out)
              rw [← HALL.out] at hlk
              have hqb := quo_bd htn hx0 hxa HAP.out
              have hst1 : Hid (quosF t all (ws.take (k + 1)) = quosF t all (ws.take k) ++ [t * x / all]) := by
                show _ = _
                rw [List.take_succ_eq_append_getElem hlt, ← HX.out, quosF_snoc]
              have hst3 : Hid (leftF t all (ws.take (k + 1)) = leftF t all (ws.take k) - t * x / all) := by
                show _ = _
                unfold leftF
                rw [hst1.out]; simp; omega
              have hlk1 := left_take t ws (k + 1) htn HNN.out (by rw [← HALL.out]; exact HAP.out)
              rw [← HALL.out, hst3.out] at hlk1
              have HRV := hidI hrv
              have hx0' := hx0
              clear hx hc hxr hrv
              go_wp2_with fail
              refine start_ (n := 16) (S := fun w' => w'.cell? ⟨b, off + k, none⟩ = some (.int .i64 x)) (ds := []) #[false, false, false, false, false, false, false, false, false, false, false, false, false, false, false, false] (by kernel_rfl) rfl rfl (q0) (fun hHeld => ?_)
              refine pure_ (i := 0) (N := some 52) (v := ?_) (a' := ?_) #[true, false, false, false, false, false, false, false, false, false, false, false, false, false, false, false] rfl rfl (by kernel_rfl) (fun _ _ _ h => h) (Or.inl ⟨by rfl, ?_⟩) ?_ ?_
              rotate_left
              · intro w'
                go_simp
                with_reducible rfl
              rotate_left
              · simp only [Act.put, List.setIfInBounds_toArray, List.set_cons_zero, List.set_cons_succ, i64_w, i32_w]
                rfl
              refine pure_ (i := 2) (N := some 54) (v := ?_) (a' := ?_) #[true, false, true, false, false, false, false, false, false, false, false, false, false, false, false, false] rfl rfl (by kernel_rfl) (fun _ _ _ h => h) (Or.inl ⟨by rfl, ?_⟩) ?_ ?_
              rotate_left
              · intro w'
                go_simp
                with_reducible rfl
              rotate_left
              · simp only [Act.put, List.setIfInBounds_toArray, List.set_cons_zero, List.set_cons_succ, i64_w, i32_w]
                rfl
              refine pure_ (i := 3) (N := some 55) (v := ?_) (a' := ?_) #[true, false, true, true, false, false, false, false, false, false, false, false, false, false, false, false] rfl rfl (by kernel_rfl) (fun _ _ _ h => h) (Or.inl ⟨by rfl, ?_⟩) ?_ ?_
              rotate_left
              · intro w'
                go_simp
                with_reducible rfl
              rotate_left
              · simp only [Act.put, List.setIfInBounds_toArray, List.set_cons_zero, List.set_cons_succ, i64_w, i32_w]
                rfl
              refine pure_ (i := 4) (N := some 56) (v := ?_) (a' := ?_) #[true, false, true, true, true, false, false, false, false, false, false, false, false, false, false, false] rfl rfl (by kernel_rfl) (fun _ _ _ h => h) (Or.inl ⟨by rfl, ?_⟩) ?_ ?_
              rotate_left
              · intro w'
                go_simp
                with_reducible rfl
              rotate_left
              · simp only [Act.put, List.setIfInBounds_toArray, List.set_cons_zero, List.set_cons_succ, i64_w, i32_w]
                rfl
              refine pure_ (i := 8) (N := some 60) (v := ?_) (a' := ?_) #[true, false, true, true, true, false, false, false, true, false, false, false, false, false, false, false] rfl rfl (by kernel_rfl) (fun _ _ _ h => h) (Or.inl ⟨by rfl, ?_⟩) ?_ ?_
              rotate_left
              · intro w'
                go_simp
                with_reducible rfl
              rotate_left
              · simp only [Act.put, List.setIfInBounds_toArray, List.set_cons_zero, List.set_cons_succ, i64_w, i32_w]
                rfl
              refine take_ (i := 5) (N := some 57) (v := ?_) (a' := ?_) #[true, false, true, true, true, true, false, false, true, false, false, false, false, false, false, false] rfl rfl (by kernel_rfl) (fun _ _ _ h => h) (Or.inl ⟨by rfl, ?_⟩) hHeld ?_ ?_
              rotate_left
              · intro w' s0
                go_simp
                with_reducible rfl
              rotate_left
              · simp only [Act.put, List.setIfInBounds_toArray, List.set_cons_zero, List.set_cons_succ, i64_w, i32_w]
                rfl
              refine one_ (i := 1) (N := some 53) #[true, true, true, true, true, true, false, false, true, false, false, false, false, false, false, false] rfl rfl (by kernel_rfl) (by decide) (fun K hK => ?_)
              refine goes_ Try.func44 (by kernel_rfl) rfl #[.int .i64 t] (by rfl) rfl rfl (by simp only [List.map_toArray, List.map_cons, List.map_nil]; rfl) ?_
              with_reducible refine (bits_c t HT.out _).mono ?_
              rintro e w1 ⟨A1, c1, xs1, rfl, hc1, hC1, hv1, hl1, hb1⟩
              refine ⟨_, rfl, ?_⟩
              refine hK.out _ _ (pw_cell_below hb1 q0) (fun hHeld => ?_)
              clear hK K
              refine norm_ (a' := ?_) ?_ ?_
              rotate_left
              · show Act.put _ (some 53) _ = _
                simp only [Act.put, List.setIfInBounds_toArray, List.set_cons_zero, List.set_cons_succ, i64_w, i32_w]
                rfl
              refine one_ (i := 6) (N := some 58) #[true, true, true, true, true, true, true, false, true, false, false, false, false, false, false, false] rfl rfl (by kernel_rfl) (by decide) (fun K hK => ?_)
              refine goes_ Try.func44 (by kernel_rfl) rfl #[.int .i64 x] (by rfl) rfl rfl (by simp only [List.map_toArray, List.map_cons, List.map_nil]; rfl) ?_
              with_reducible refine (bits_c x HXR.out _).mono ?_
              rintro e w2 ⟨A2, c2, xs2, rfl, hc2, hC2, hv2, hl2, hb2⟩
              refine ⟨_, rfl, ?_⟩
              have hC1 := Kd.C_below hC1 hb2
              refine hK.out _ _ (pw_cell_below (below_step hb1 hb2) q0) (fun hHeld => ?_)
              clear hK K
              refine norm_ (a' := ?_) ?_ ?_
              rotate_left
              · show Act.put _ (some 58) _ = _
                simp only [Act.put, List.setIfInBounds_toArray, List.set_cons_zero, List.set_cons_succ, i64_w, i32_w]
                rfl
              refine one_ (i := 7) (N := some 59) #[true, true, true, true, true, true, true, true, true, false, false, false, false, false, false, false] rfl rfl (by kernel_rfl) (by decide) (fun K hK => ?_)
              refine goes_ Try.func43 (by kernel_rfl) rfl #[.slice A1 xs1.length c1, .slice A2 xs2.length c2] (by rfl) rfl rfl (by simp only [List.map_toArray, List.map_cons, List.map_nil]; rfl) ?_
              with_reducible refine (times_c _ _ _ _ _ _ _ hC1 hc1 hC2 hc2 hl1 hl2).mono ?_
              rintro e w3 ⟨A3, c3, xs3, rfl, hc3, hC3, hv3, hl3, hb3⟩
              refine ⟨_, rfl, ?_⟩
              refine hK.out _ _ (pw_cell_below (below_step (below_step hb1 hb2) hb3) q0) (fun hHeld => ?_)
              clear hK K
              refine norm_ (a' := ?_) ?_ ?_
              rotate_left
              · show Act.put _ (some 59) _ = _
                simp only [Act.put, List.setIfInBounds_toArray, List.set_cons_zero, List.set_cons_succ, i64_w, i32_w]
                rfl
              refine one_ (i := 9) (N := some 61) #[true, true, true, true, true, true, true, true, true, true, false, false, false, false, false, false] rfl rfl (by kernel_rfl) (by decide) (fun K hK => ?_)
              refine goes_ Try.func44 (by kernel_rfl) rfl #[.int .i64 all] (by rfl) rfl rfl (by simp only [List.map_toArray, List.map_cons, List.map_nil]; rfl) ?_
              with_reducible refine (bits_c all HAR.out _).mono ?_
              rintro e w4 ⟨A4, c4, xs4, rfl, hc4, hC4, hv4, hl4, hb4⟩
              refine ⟨_, rfl, ?_⟩
              have hC3 := Kd.C_below hC3 hb4
              refine hK.out _ _ (pw_cell_below (below_step (below_step (below_step hb1 hb2) hb3) hb4) q0) (fun hHeld => ?_)
              clear hK K
              refine norm_ (a' := ?_) ?_ ?_
              rotate_left
              · show Act.put _ (some 61) _ = _
                simp only [Act.put, List.setIfInBounds_toArray, List.set_cons_zero, List.set_cons_succ, i64_w, i32_w]
                rfl
              refine one_ (i := 10) (N := some 62) #[true, true, true, true, true, true, true, true, true, true, true, false, false, false, false, false] rfl rfl (by kernel_rfl) (by decide) (fun K hK => ?_)
              refine goes_ Try.func42 (by kernel_rfl) rfl #[.slice A3 xs3.length c3, .slice A4 xs4.length c4] (by rfl) rfl rfl (by simp only [List.map_toArray, List.map_cons, List.map_nil]; rfl) ?_
              with_reducible refine (div_c _ _ _ _ _ _ _ hC3 hc3 hC4 hc4 hl3 hl4 (by rw [hv4]; have := HAP.out; omega)).mono ?_
              rintro e w5 ⟨v5, v6, q5, r5, rfl, hR5, hR6, hv5, hv6, hl5, hl6, ht6, hb5⟩
              refine ⟨_, rfl, ?_⟩
              refine hK.out _ _ (pw_cell_below (below_step (below_step (below_step (below_step hb1 hb2) hb3) hb4) hb5) q0) (fun hHeld => ?_)
              clear hK K
              refine norm_ (a' := ?_) ?_ ?_
              rotate_left
              · show Act.put _ (some 62) _ = _
                simp only [Act.put, List.setIfInBounds_toArray, List.set_cons_zero, List.set_cons_succ, i64_w, i32_w]
                rfl
              refine pure_ (i := 11) (N := some 51) (v := ?_) (a' := ?_) #[true, true, true, true, true, true, true, true, true, true, true, true, false, false, false, false] rfl rfl (by kernel_rfl) (fun _ _ _ h => h) (Or.inl ⟨by rfl, ?_⟩) ?_ ?_
              rotate_left
              · intro w'
                go_simp
                with_reducible rfl
              rotate_left
              · simp only [Act.put, List.setIfInBounds_toArray, List.set_cons_zero, List.set_cons_succ, i64_w, i32_w]
                rfl
              refine pure_ (i := 12) (N := some 63) (v := ?_) (a' := ?_) #[true, true, true, true, true, true, true, true, true, true, true, true, true, false, false, false] rfl rfl (by kernel_rfl) (fun _ _ _ h => h) (Or.inl ⟨by rfl, ?_⟩) ?_ ?_
              rotate_left
              · intro w'
                go_simp
                with_reducible rfl
              rotate_left
              · simp only [Act.put, List.setIfInBounds_toArray, List.set_cons_zero, List.set_cons_succ, i64_w, i32_w]
                rfl
              refine pure_ (i := 13) (N := some 64) (v := ?_) (a' := ?_) #[true, true, true, true, true, true, true, true, true, true, true, true, true, true, false, false] rfl rfl (by kernel_rfl) (fun _ _ _ h => h) (Or.inl ⟨by rfl, ?_⟩) ?_ ?_
              rotate_left
              · intro w'
                go_simp
                with_reducible rfl
              rotate_left
              · simp only [Act.put, List.setIfInBounds_toArray, List.set_cons_zero, List.set_cons_succ, i64_w, i32_w]
                rfl
              refine pure_ (i := 14) (N := some 13) (v := ?_) (a' := ?_) #[true, true, true, true, true, true, true, true, true, true, true, true, true, true, true, false] rfl rfl (by kernel_rfl) (fun _ _ _ h => h) (Or.inl ⟨by rfl, ?_⟩) ?_ ?_
              rotate_left
              · intro w'
                go_simp
                with_reducible rfl
              rotate_left
              · simp only [Act.put, List.setIfInBounds_toArray, List.set_cons_zero, List.set_cons_succ, i64_w, i32_w]
                rfl
              refine pure_ (i := 15) (N := some 14) (v := ?_) (a' := ?_) #[true, true, true, true, true, true, true, true, true, true, true, true, true, true, true, true] rfl rfl (by kernel_rfl) (fun _ _ _ h => h) (Or.inl ⟨by rfl, ?_⟩) ?_ ?_
              rotate_left
              · intro w'
                go_simp
                with_reducible rfl
              rotate_left
              · simp only [Act.put, List.setIfInBounds_toArray, List.set_cons_zero, List.set_cons_succ, i64_w, i32_w]
                rfl
              refine done_ (by kernel_rfl) ?_
              have eqv : (val q5 : Int) = t * x / all := by
                rw [hv5, hv3, hv1, hv2, hv4]; exact natq t x all htn hx0 (by omega)
              have erv : val r5 = (rvF t ws k).toNat := by
                rw [hv6, hv3, hv1, hv2, hv4, HRV.out]; exact natr t x all htn hx0 (by omega)
              have hb05 := below_step (below_step (below_step (below_step hb1 hb2) hb3) hb4) hb5
              have hb04 := below_step (below_step (below_step hb1 hb2) hb3) hb4
              obtain ⟨A6, c6, rfl⟩ := Kd.R_slice hR6
              have htr := HT.out.2
              have hq63 : val q5 ≤ 9223372036854775807 := by omega
              clear hC1 hC2 hC3 hC4 hv1 hv2 hv3 hv4 hv5 hv6 hl1 hl2 hl3 hl4 ht6 hc1 hc2 hc3 hc4 hb1 hb2 hb3 hb4 hHeld
              have HQ := hidI (And.intro hR5 (And.intro hR6 (And.intro erv (And.intro hl6 (And.intro hb05 (And.intro hb04 hb5))))))
              clear hR5 hR6 erv hl6 hb05 hb04 q0
              have HV := hidI (value_c v5 q5 _ w4 w5 hb5 HQ.out.1 hl5 hq63)
              clear hb5 hl5 hq63
              rw [eqv] at HV
              clear eqv hxa
              generalize leftF t all (ws.take k) = lf at *
              generalize t * x / all = q at *
              go_wp2_with fail
              refine HV.out.mono ?_
              rintro e w6 ⟨rfl, hb6, hk6⟩
              simp only []
              obtain ⟨hR5, hR6, erv, hl6, hb05, hb04, hb5⟩ := HQ.out
              clear HQ HV
              have hbx := below_step hb04 hb6
              have ho6 := Kd.own_of_R hR6
              have hv6 : Kd.R Kd.bool 4 w6 w.heap.size (fun _ => True) (.slice A6 r5.length c6) r5 := Kd.R_of_own (Go.Proofs.YtncnhhnbjmpomaaW.PrintWords.own_weaken (Go.Proofs.YtncnhhnbjmpomaaW.PrintWords.own_move ho6 (fun k hk => hk6.2 k (Go.Proofs.YtncnhhnbjmpomaaW.PrintWords.own_lt ho6 k hk) (fun hn => hn hk.symm))) (Nat.le_trans HI.out.2.2.size hb04.size)) (fun _ _ => trivial)
              obtain ⟨hO1, ⟨rs, hrs, hO2, hRW⟩, hB0⟩ := HI.out
              have hO1 := (hO1.drew).below hbx
              have hO2 := (hO2.drew).below hbx
              have hRW := Rows.below (Rows.below (w1 := wr.drew) hRW ⟨rfl, rfl, rfl, Nat.le_refl _, fun _ _ => rfl⟩) hbx
              have hB0 := below_step (below_drewN hB0 1) hbx
              clear HI hR5 hR6 hb05 hb04 hb5 hb6 hk6 hbx ho6
              have hl1 : (quosF t all (ws.take k)).length = k := by rw [quosF_len, List.length_take]; omega
              rw [← HALL.out] at hO1
              generalize quosF t all (ws.take k) = zq at *
              have hfs := Rows.snoc hRW hv6 (by rw [hrs, erv]) hl6
              have HO1 := hidI hO1
              have HO2 := hidI hO2
              have HFS := hidI (And.intro hRW hfs)
              have HB0 := hidI hB0
              have hzq : zq.length ≤ 1000000 := by omega
              have hzr : rs.length ≤ 1000000 := by omega
              have HL := hidI (And.intro hl1 hrs)
              have HSZ := hB0.size
              have HBV := hidI hv6
              have HER := hidI erv
              clear hO1 hO2 hB0 hRW hfs hl1 hrs hv6 erv hl6
              go_wp2_with (first
                | (at_builtin; refine print_append_cells (w0 := w) (W := w6) w.heap.size rfl (.tmp 70) (.tmp 72) 22 2 (.int .i64 0) 1 8 rfl Try.underlying22 info2 rfl (by decide) (by decide) u9 zq.length (zq.flatMap li) [.int .i64 q] (by rfl) (by rfl) rfl (by simp [Value.oneCell']) HO1.out HB0.out HB0.out.size (by omega) ?_; intro v7 w7 ho7 hb7 hg7 hat7)
                | (at_builtin; refine print_append_cells (w0 := w) (W := w7) w.heap.size rfl (.tmp 74) (.tmp 76) 102 87 (.slice none 0 0) 1 24 rfl Try.underlying102 info87 rfl (by decide) (by decide) u10 rs.length (rs.flatMap lv) [.slice A6 r5.length c6] (by rfl) (by rfl) rfl (by simp [Value.oneCell']) (HO2.out.kept (fun k2 hk2 => hg7.block k2 (HO2.out.lt hk2) (fun h => HO2.out.ne_own HO1.out (by decide) k2 hk2 h.symm))) hb7 hb7.size (by omega) ?_; intro v8 w8 ho8 hb8 hg8 hat8))
              have hO27 := HO2.out.kept (w1 := w7) (fun k2 hk2 => hg7.block k2 (HO2.out.lt hk2) (fun h => HO2.out.ne_own HO1.out (by decide) k2 hk2 h.symm))
              have hO17 := Own.snoc (l := li) (p := q) ho7
              have hO18 := hO17.kept (w1 := w8) (fun k2 hk2 => hg8.block k2 (hO17.lt hk2) (fun h => hO17.ne_own hO27 (by decide) k2 hk2 h.symm))
              have hO28 := Own.snoc (l := lv) (p := Value.slice A6 r5.length c6) ho8
              have hR7 := Rows.grown HFS.out.2 HO1.out (by decide) (fun k2 h1 h2 => hg7.block k2 h1 h2)
              have hR8 := Rows.grown hR7 hO27 (by decide) (fun k2 h1 h2 => hg8.block k2 h1 h2)
              have hfin : Hid (RS t ws w w8 v7 v8 (k + 1)) := by
                refine ⟨?_, ⟨rs ++ [.slice A6 r5.length c6], by simp [HL.out.2], hO28, hR8⟩, hb8⟩
                rw [← HALL.out, hst1.out]
                exact hO18
              clear ho7 hb7 hg7 hat7 ho8 hb8 hg8 hat8 hO27 hO17 hO18 hO28 hR7 hR8 HO1 HO2 HB0 HFS HBV
              go_roundw
              case rel => exact ⟨k + 1, by omega, by go_num, by rw [hst3.out], hfin⟩
              case measure => simp [intOf]; omega
            · obtain rfl : k = ws.length := by omega
              have hRS := HI.out
              unfold RS at hRS
              rw [List.take_length] at hRS
              rw [List.take_length]
              obtain ⟨hO1, ⟨rs, hrs, hO2, hRW⟩, hB⟩ := hRS
              rw [← HALL.out] at hO1
              have hHL := left_bd t ws htn HNN.out (by rw [← HALL.out]; exact HAP.out)
              rw [← HALL.out] at hHL
              obtain ⟨lf, hlf⟩ : ∃ lf : Nat, (lf : Int) = leftF t all ws := ⟨(leftF t all ws).toNat, by omega⟩
              have hlf2 : (leftF t all ws).toNat = lf := by omega
              have hpos : 0 < ws.length := by
                apply Nat.pos_of_ne_zero
                intro h0
                have e := HALL.out
                rw [List.length_eq_zero_iff.1 h0] at e
                simp at e; omega
              have HPF : Hid (partsF t ws = bump (quosF t all ws) ((ordF t ws).take lf)) := by
                show _ = _
                unfold partsF ordF; rw [← HALL.out, hlf2]
              have hsum : (quosF t all ws).sum + lf = t := by
                have : leftF t all ws = t - (quosF t all ws).sum := rfl
                omega
              have hq0 : ∀ x ∈ quosF t all ws, 0 ≤ x := by
                intro x hx
                obtain ⟨y, hy, rfl⟩ := List.mem_map.1 hx
                exact (quo_bd htn (HNN.out y hy) (by rw [HALL.out]; exact HM.out y hy) HAP.out).1
              have HQ0 := hidI hq0
              have hql := quosF_len t all ws
              have HLF : Hid (∀ j : Nat, j < lf → (j : Int) < leftF t ws.sum ws) := by
                show ∀ j : Nat, j < lf → (j : Int) < leftF t ws.sum ws
                intro j hj
                rw [← HALL.out, ← hlf]; omega
              have hlf3 : lf ≤ ws.length := by omega
              rw [← hlf]
              rcases hO1.cases_ with ⟨_, h0⟩ | ⟨g9, c9, rfl, hc9, hc9m, hg9b, hg9l⟩
              · rw [h0] at hql; simp at hql; omega
              rcases hO2.cases_ with ⟨_, h0⟩ | ⟨g10, c10, rfl, hc10, hc10m, hg10b, hg10l⟩
              · rw [h0] at hrs; simp at hrs; omega
              have hST : Hid (PK t ws w wr g9 c9 g10 c10 0 (quosF t all ws)) := ⟨by rw [hql] at hO1; exact hO1, ⟨rs, hrs, by rw [hrs] at hO2; exact hO2, fun i hi => by
                have := hRW i hi
                simpa [PKf, alive] using this⟩, hB⟩
              rw [hql, hrs]
              clear hO1 hO2 hRW hB HI hlf hlf2 hHL hq0 hlt hk hc9 hc10 hrs
              generalize quosF t all ws = qs at *
              have HSUM := hidI hsum
              go_wp2
              go_loopw [11] (fun l w2 => ∃ j : Nat, j ≤ lf ∧ l = .int .i64 ((lf : Int) - j) ∧ Hid (PK t ws w w2 g9 c9 g10 c10 j qs)) (fun l _ => (intOf l).toNat)
              case atStart => exact ⟨0, Nat.zero_le _, by simp, hST.out⟩
              case round =>
                obtain ⟨j, hj, rfl, HJ⟩ := hrel
                clear hST
                by_cases hlt : j < lf
                · have tl : decide (((lf : Int) - j) > 0) = true := by simp; omega
                  go_wp2
                  go_loopw [17, 18] (fun bv iv w3 => ∃ i : Nat, i ≤ ws.length ∧ iv = .int .i64 i ∧ ∃ bz : Int, bv = .int .i64 bz ∧ Hid (BI t ws j i bz ∧ PK t ws w w3 g9 c9 g10 c10 j qs)) (fun _ iv _ => ws.length - (intOf iv).toNat)
                  case atStart => exact ⟨0, Nat.zero_le _, rfl, -1, rfl, BI.start t ws j, HJ.out⟩
                  case round =>
                    obtain ⟨i, hi, rfl, bz, rfl, HB⟩ := hrel
                    by_cases hil : i < ws.length
                    · obtain ⟨hBI, hPK⟩ := HB.out
                      have hPK2 := hPK
                      obtain ⟨hO1, ⟨rs, hrs, hO2, hRW⟩, hBW⟩ := hPK
                      have hq := (ownv_cell hO2 i (by omega)).1
                      have hnil : Hid (rs[i] = .slice Option.none 0 0 → (alive t ws j i → rvF t ws i = 0) → wr.cell? ⟨g10, i, Option.none⟩ = some (.slice Option.none 0 0) ∧ BI t ws j (i + 1) bz) := by
                        intro h1 h2
                        rw [h1] at hq
                        exact ⟨hq, BI.skip (by rw [← HALL.out]; exact HAP.out) hBI h2⟩
                      have hcase : (rs[i] = .slice Option.none 0 0 ∧ (alive t ws j i → rvF t ws i = 0)) ∨ (alive t ws j i ∧ ∃ gi ci xi, rs[i] = .slice (some ⟨gi, 0, Option.none⟩) (xi : List Bool).length ci ∧ xi.length ≤ ci ∧ Kd.C Kd.bool wr (some ⟨gi, 0, Option.none⟩) xi.length xi ∧ val xi = (rvF t ws i).toNat ∧ xi.length ≤ 100000) := by
                        have h := hRW i (by omega)
                        unfold PKf at h
                        by_cases hal : alive t ws j i
                        · rw [if_pos hal] at h
                          obtain ⟨xs, h1, h2, h3⟩ := h
                          obtain ⟨A, c, e, hc, hC⟩ := Kd.R_reads h1
                          rcases (Kd.own_of_R h1).2 with ⟨e1, e2⟩ | ⟨gi, ci, cur, e1, _⟩
                          · refine .inl ⟨e1, fun _ => ?_⟩
                            rw [List.length_eq_zero_iff.1 e2] at h2
                            have := rv_nn t ws (by rw [← HALL.out]; exact HAP.out) i
                            simp [val] at h2; omega
                          · rw [e] at e1
                            injection e1 with e2 e3 e4
                            subst e2
                            exact .inr ⟨hal, gi, c, xs, e, hc, hC, h2, h3⟩
                        · rw [if_neg hal] at h
                          exact .inl ⟨h, fun h => absurd h hal⟩
                      rcases hcase with ⟨h1, h2⟩ | ⟨hal, gi, ci, xi, h1, hci, hCi, hvi, hli⟩
                      · obtain ⟨hq, hn⟩ := hnil.out h1 h2
                        have hfin : Hid (BI t ws j (i + 1) bz ∧ PK t ws w wr.drew g9 c9 g10 c10 j qs) := ⟨hn, hPK2.below (drew_b _)⟩
                        clear hBI hPK2 hO1 hO2 hRW hBW hnil h1 h2 hn HB HJ
                        go_wp2_with fail
                        refine start_ (n := 20) (S := fun w' => w'.cell? ⟨g10, i, Option.none⟩ = some (.slice Option.none 0 0)) (ds := []) #[false, false, false, false, false, false, false, false, false, false, false, false, false, false, false, false, false, false, false, false] (by kernel_rfl) rfl rfl (hq) (fun hHeld => ?_)
                        refine pure_ (i := 0) (N := some 89) (v := ?_) (a' := ?_) #[true, false, false, false, false, false, false, false, false, false, false, false, false, false, false, false, false, false, false, false] rfl rfl (by kernel_rfl) (fun _ _ _ h => h) (Or.inl ⟨by rfl, ?_⟩) ?_ ?_
                        rotate_left
                        · intro w'
                          go_simp
                          with_reducible rfl
                        rotate_left
                        · simp only [Act.put, List.setIfInBounds_toArray, List.set_cons_zero, List.set_cons_succ, i64_w, i32_w]
                          rfl
                        refine pure_ (i := 1) (N := some 90) (v := ?_) (a' := ?_) #[true, true, false, false, false, false, false, false, false, false, false, false, false, false, false, false, false, false, false, false] rfl rfl (by kernel_rfl) (fun _ _ _ h => h) (Or.inl ⟨by rfl, ?_⟩) ?_ ?_
                        rotate_left
                        · intro w'
                          go_simp
                          with_reducible rfl
                        rotate_left
                        · simp only [Act.put, List.setIfInBounds_toArray, List.set_cons_zero, List.set_cons_succ, i64_w, i32_w]
                          rfl
                        refine pure_ (i := 2) (N := some 91) (v := ?_) (a' := ?_) #[true, true, true, false, false, false, false, false, false, false, false, false, false, false, false, false, false, false, false, false] rfl rfl (by kernel_rfl) (fun _ _ _ h => h) (Or.inl ⟨by rfl, ?_⟩) ?_ ?_
                        rotate_left
                        · intro w'
                          go_simp
                          with_reducible rfl
                        rotate_left
                        · simp only [Act.put, List.setIfInBounds_toArray, List.set_cons_zero, List.set_cons_succ, i64_w, i32_w]
                          rfl
                        refine take_ (i := 3) (N := some 92) (v := ?_) (a' := ?_) #[true, true, true, true, false, false, false, false, false, false, false, false, false, false, false, false, false, false, false, false] rfl rfl (by kernel_rfl) (fun _ _ _ h => h) (Or.inl ⟨by rfl, ?_⟩) hHeld ?_ ?_
                        rotate_left
                        · intro w' s0
                          go_simp
                          with_reducible rfl
                        rotate_left
                        · simp only [Act.put, List.setIfInBounds_toArray, List.set_cons_zero, List.set_cons_succ, i64_w, i32_w]
                          rfl
                        refine pure_ (i := 4) (N := some 93) (v := ?_) (a' := ?_) #[true, true, true, true, true, false, false, false, false, false, false, false, false, false, false, false, false, false, false, false] rfl rfl (by kernel_rfl) (fun _ _ _ h => h) (Or.inl ⟨by rfl, ?_⟩) ?_ ?_
                        rotate_left
                        · intro w'
                          go_simp
                          with_reducible rfl
                        rotate_left
                        · simp only [Act.put, List.setIfInBounds_toArray, List.set_cons_zero, List.set_cons_succ, i64_w, i32_w]
                          rfl
                        refine pure_ (i := 5) (N := some 94) (v := ?_) (a' := ?_) #[true, true, true, true, true, true, false, false, false, false, false, false, false, false, false, false, false, false, false, false] rfl rfl (by kernel_rfl) (fun _ _ _ h => h) (Or.inl ⟨by rfl, ?_⟩) ?_ ?_
                        rotate_left
                        · intro w'
                          go_simp
                          with_reducible rfl
                        rotate_left
                        · simp only [Act.put, List.setIfInBounds_toArray, List.set_cons_zero, List.set_cons_succ, i64_w, i32_w]
                          rfl
                        refine pure_ (i := 6) (N := some 95) (v := undef) (a' := ?_) #[true, true, true, true, true, true, true, false, false, false, false, false, false, false, false, false, false, false, false, false] rfl rfl (by kernel_rfl) (fun _ _ _ h => h) (Or.inr ⟨by rfl, rfl⟩) ?_ ?_
                        rotate_left
                        · simp only [Act.put, List.setIfInBounds_toArray, List.set_cons_zero, List.set_cons_succ, i64_w, i32_w]
                          rfl
                        refine pure_ (i := 7) (N := some 96) (v := undef) (a' := ?_) #[true, true, true, true, true, true, true, true, false, false, false, false, false, false, false, false, false, false, false, false] rfl rfl (by kernel_rfl) (fun _ _ _ h => h) (Or.inr ⟨by rfl, rfl⟩) ?_ ?_
                        rotate_left
                        · simp only [Act.put, List.setIfInBounds_toArray, List.set_cons_zero, List.set_cons_succ, i64_w, i32_w]
                          rfl
                        refine pure_ (i := 8) (N := some 97) (v := undef) (a' := ?_) #[true, true, true, true, true, true, true, true, true, false, false, false, false, false, false, false, false, false, false, false] rfl rfl (by kernel_rfl) (fun _ _ _ h => h) (Or.inr ⟨by rfl, rfl⟩) ?_ ?_
                        rotate_left
                        · simp only [Act.put, List.setIfInBounds_toArray, List.set_cons_zero, List.set_cons_succ, i64_w, i32_w]
                          rfl
                        refine pure_ (i := 9) (N := some 98) (v := undef) (a' := ?_) #[true, true, true, true, true, true, true, true, true, true, false, false, false, false, false, false, false, false, false, false] rfl rfl (by kernel_rfl) (fun _ _ _ h => h) (Or.inr ⟨by rfl, rfl⟩) ?_ ?_
                        rotate_left
                        · simp only [Act.put, List.setIfInBounds_toArray, List.set_cons_zero, List.set_cons_succ, i64_w, i32_w]
                          rfl
                        refine pure_ (i := 10) (N := some 99) (v := undef) (a' := ?_) #[true, true, true, true, true, true, true, true, true, true, true, false, false, false, false, false, false, false, false, false] rfl rfl (by kernel_rfl) (fun _ _ _ h => h) (Or.inr ⟨by rfl, rfl⟩) ?_ ?_
                        rotate_left
                        · simp only [Act.put, List.setIfInBounds_toArray, List.set_cons_zero, List.set_cons_succ, i64_w, i32_w]
                          rfl
                        refine pure_ (i := 11) (N := some 100) (v := undef) (a' := ?_) #[true, true, true, true, true, true, true, true, true, true, true, true, false, false, false, false, false, false, false, false] rfl rfl (by kernel_rfl) (fun _ _ _ h => h) (Or.inr ⟨by rfl, rfl⟩) ?_ ?_
                        rotate_left
                        · simp only [Act.put, List.setIfInBounds_toArray, List.set_cons_zero, List.set_cons_succ, i64_w, i32_w]
                          rfl
                        refine pure_ (i := 12) (N := some 101) (v := undef) (a' := ?_) #[true, true, true, true, true, true, true, true, true, true, true, true, true, false, false, false, false, false, false, false] rfl rfl (by kernel_rfl) (fun _ _ _ h => h) (Or.inr ⟨by rfl, rfl⟩) ?_ ?_
                        rotate_left
                        · simp only [Act.put, List.setIfInBounds_toArray, List.set_cons_zero, List.set_cons_succ, i64_w, i32_w]
                          rfl
                        refine pure_ (i := 13) (N := some 102) (v := undef) (a' := ?_) #[true, true, true, true, true, true, true, true, true, true, true, true, true, true, false, false, false, false, false, false] rfl rfl (by kernel_rfl) (fun _ _ _ h => h) (Or.inr ⟨by rfl, rfl⟩) ?_ ?_
                        rotate_left
                        · simp only [Act.put, List.setIfInBounds_toArray, List.set_cons_zero, List.set_cons_succ, i64_w, i32_w]
                          rfl
                        refine pure_ (i := 14) (N := some 103) (v := undef) (a' := ?_) #[true, true, true, true, true, true, true, true, true, true, true, true, true, true, true, false, false, false, false, false] rfl rfl (by kernel_rfl) (fun _ _ _ h => h) (Or.inr ⟨by rfl, rfl⟩) ?_ ?_
                        rotate_left
                        · simp only [Act.put, List.setIfInBounds_toArray, List.set_cons_zero, List.set_cons_succ, i64_w, i32_w]
                          rfl
                        refine pure_ (i := 15) (N := some 104) (v := undef) (a' := ?_) #[true, true, true, true, true, true, true, true, true, true, true, true, true, true, true, true, false, false, false, false] rfl rfl (by kernel_rfl) (fun _ _ _ h => h) (Or.inr ⟨by rfl, rfl⟩) ?_ ?_
                        rotate_left
                        · simp only [Act.put, List.setIfInBounds_toArray, List.set_cons_zero, List.set_cons_succ, i64_w, i32_w]
                          rfl
                        refine pure_ (i := 16) (N := some 105) (v := undef) (a' := ?_) #[true, true, true, true, true, true, true, true, true, true, true, true, true, true, true, true, true, false, false, false] rfl rfl (by kernel_rfl) (fun _ _ _ h => h) (Or.inr ⟨by rfl, rfl⟩) ?_ ?_
                        rotate_left
                        · simp only [Act.put, List.setIfInBounds_toArray, List.set_cons_zero, List.set_cons_succ, i64_w, i32_w]
                          rfl
                        refine pure_ (i := 17) (N := some 106) (v := undef) (a' := ?_) #[true, true, true, true, true, true, true, true, true, true, true, true, true, true, true, true, true, true, false, false] rfl rfl (by kernel_rfl) (fun _ _ _ h => h) (Or.inr ⟨by rfl, rfl⟩) ?_ ?_
                        rotate_left
                        · simp only [Act.put, List.setIfInBounds_toArray, List.set_cons_zero, List.set_cons_succ, i64_w, i32_w]
                          rfl
                        refine pure_ (i := 18) (N := some 107) (v := undef) (a' := ?_) #[true, true, true, true, true, true, true, true, true, true, true, true, true, true, true, true, true, true, true, false] rfl rfl (by kernel_rfl) (fun _ _ _ h => h) (Or.inr ⟨by rfl, rfl⟩) ?_ ?_
                        rotate_left
                        · simp only [Act.put, List.setIfInBounds_toArray, List.set_cons_zero, List.set_cons_succ, i64_w, i32_w]
                          rfl
                        refine pure_ (i := 19) (N := some 108) (v := ?_) (a' := ?_) #[true, true, true, true, true, true, true, true, true, true, true, true, true, true, true, true, true, true, true, true] rfl rfl (by kernel_rfl) (fun _ _ _ h => h) (Or.inl ⟨by rfl, ?_⟩) ?_ ?_
                        rotate_left
                        · intro w'
                          go_simp
                          with_reducible rfl
                        rotate_left
                        · simp only [Act.put, List.setIfInBounds_toArray, List.set_cons_zero, List.set_cons_succ, i64_w, i32_w]
                          rfl
                        refine done_ (by kernel_rfl) ?_
                        go_wp2
                        go_roundw
                        case rel => exact ⟨i + 1, by omega, by go_num, bz, rfl, hfin.out⟩
                        case measure => simp [intOf]; omega
                      · rw [h1] at hq
                        clear hnil
                        by_cases hbz : bz < 0
                        · have hfin : Hid (BI t ws j (i + 1) i ∧ PK t ws w wr.drew g9 c9 g10 c10 j qs) := ⟨BI.first (by rw [← HALL.out]; exact HAP.out) hBI hbz hal, hPK2.below (drew_b _)⟩
                          have tb : decide (bz < 0) = true := by simpa using hbz
                          clear hBI hPK2 hO1 hO2 hRW hBW h1 HB HJ hCi
                          go_wp2_with fail
                          refine start_ (n := 20) (S := fun w' => w'.cell? ⟨g10, i, Option.none⟩ = some (.slice (some ⟨gi, 0, Option.none⟩) xi.length ci)) (ds := []) #[false, false, false, false, false, false, false, false, false, false, false, false, false, false, false, false, false, false, false, false] (by kernel_rfl) rfl rfl (hq) (fun hHeld => ?_)
                          refine pure_ (i := 0) (N := some 89) (v := ?_) (a' := ?_) #[true, false, false, false, false, false, false, false, false, false, false, false, false, false, false, false, false, false, false, false] rfl rfl (by kernel_rfl) (fun _ _ _ h => h) (Or.inl ⟨by rfl, ?_⟩) ?_ ?_
                          rotate_left
                          · intro w'
                            go_simp
                            with_reducible rfl
                          rotate_left
                          · simp only [Act.put, List.setIfInBounds_toArray, List.set_cons_zero, List.set_cons_succ, i64_w, i32_w]
                            rfl
                          refine pure_ (i := 1) (N := some 90) (v := ?_) (a' := ?_) #[true, true, false, false, false, false, false, false, false, false, false, false, false, false, false, false, false, false, false, false] rfl rfl (by kernel_rfl) (fun _ _ _ h => h) (Or.inl ⟨by rfl, ?_⟩) ?_ ?_
                          rotate_left
                          · intro w'
                            go_simp
                            with_reducible rfl
                          rotate_left
                          · simp only [Act.put, List.setIfInBounds_toArray, List.set_cons_zero, List.set_cons_succ, i64_w, i32_w]
                            rfl
                          refine pure_ (i := 2) (N := some 91) (v := ?_) (a' := ?_) #[true, true, true, false, false, false, false, false, false, false, false, false, false, false, false, false, false, false, false, false] rfl rfl (by kernel_rfl) (fun _ _ _ h => h) (Or.inl ⟨by rfl, ?_⟩) ?_ ?_
                          rotate_left
                          · intro w'
                            go_simp
                            with_reducible rfl
                          rotate_left
                          · simp only [Act.put, List.setIfInBounds_toArray, List.set_cons_zero, List.set_cons_succ, i64_w, i32_w]
                            rfl
                          refine take_ (i := 3) (N := some 92) (v := ?_) (a' := ?_) #[true, true, true, true, false, false, false, false, false, false, false, false, false, false, false, false, false, false, false, false] rfl rfl (by kernel_rfl) (fun _ _ _ h => h) (Or.inl ⟨by rfl, ?_⟩) hHeld ?_ ?_
                          rotate_left
                          · intro w' s0
                            go_simp
                            with_reducible rfl
                          rotate_left
                          · simp only [Act.put, List.setIfInBounds_toArray, List.set_cons_zero, List.set_cons_succ, i64_w, i32_w]
                            rfl
                          refine pure_ (i := 4) (N := some 93) (v := ?_) (a' := ?_) #[true, true, true, true, true, false, false, false, false, false, false, false, false, false, false, false, false, false, false, false] rfl rfl (by kernel_rfl) (fun _ _ _ h => h) (Or.inl ⟨by rfl, ?_⟩) ?_ ?_
                          rotate_left
                          · intro w'
                            go_simp
                            with_reducible rfl
                          rotate_left
                          · simp only [Act.put, List.setIfInBounds_toArray, List.set_cons_zero, List.set_cons_succ, i64_w, i32_w]
                            rfl
                          refine pure_ (i := 5) (N := some 94) (v := ?_) (a' := ?_) #[true, true, true, true, true, true, false, false, false, false, false, false, false, false, false, false, false, false, false, false] rfl rfl (by kernel_rfl) (fun _ _ _ h => h) (Or.inl ⟨by rfl, ?_⟩) ?_ ?_
                          rotate_left
                          · intro w'
                            go_simp
                            with_reducible rfl
                          rotate_left
                          · simp only [Act.put, List.setIfInBounds_toArray, List.set_cons_zero, List.set_cons_succ, i64_w, i32_w]
                            rfl
                          refine pure_ (i := 6) (N := some 95) (v := ?_) (a' := ?_) #[true, true, true, true, true, true, true, false, false, false, false, false, false, false, false, false, false, false, false, false] rfl rfl (by kernel_rfl) (fun _ _ _ h => h) (Or.inl ⟨by rfl, ?_⟩) ?_ ?_
                          rotate_left
                          · intro w'
                            go_simp
                            with_reducible rfl
                          rotate_left
                          · simp only [Act.put, List.setIfInBounds_toArray, List.set_cons_zero, List.set_cons_succ, i64_w, i32_w]
                            rfl
                          refine pure_ (i := 7) (N := some 96) (v := ?_) (a' := ?_) #[true, true, true, true, true, true, true, true, false, false, false, false, false, false, false, false, false, false, false, false] rfl rfl (by kernel_rfl) (fun _ _ _ h => h) (Or.inl ⟨by rfl, ?_⟩) ?_ ?_
                          rotate_left
                          · intro w'
                            go_simp
                            with_reducible rfl
                          rotate_left
                          · simp only [Act.put, List.setIfInBounds_toArray, List.set_cons_zero, List.set_cons_succ, i64_w, i32_w]
                            rfl
                          refine pure_ (i := 8) (N := some 97) (v := ?_) (a' := ?_) #[true, true, true, true, true, true, true, true, true, false, false, false, false, false, false, false, false, false, false, false] rfl rfl (by kernel_rfl) (fun _ _ _ h => h) (Or.inl ⟨by rfl, ?_⟩) ?_ ?_
                          rotate_left
                          · intro w'
                            go_simp
                            with_reducible rfl
                          rotate_left
                          · simp only [Act.put, List.setIfInBounds_toArray, List.set_cons_zero, List.set_cons_succ, i64_w, i32_w]
                            rfl
                          refine pure_ (i := 9) (N := some 98) (v := undef) (a' := ?_) #[true, true, true, true, true, true, true, true, true, true, false, false, false, false, false, false, false, false, false, false] rfl rfl (by kernel_rfl) (fun _ _ _ h => h) (Or.inr ⟨by rfl, rfl⟩) ?_ ?_
                          rotate_left
                          · simp only [Act.put, List.setIfInBounds_toArray, List.set_cons_zero, List.set_cons_succ, i64_w, i32_w]
                            rfl
                          refine pure_ (i := 10) (N := some 99) (v := undef) (a' := ?_) #[true, true, true, true, true, true, true, true, true, true, true, false, false, false, false, false, false, false, false, false] rfl rfl (by kernel_rfl) (fun _ _ _ h => h) (Or.inr ⟨by rfl, rfl⟩) ?_ ?_
                          rotate_left
                          · simp only [Act.put, List.setIfInBounds_toArray, List.set_cons_zero, List.set_cons_succ, i64_w, i32_w]
                            rfl
                          refine pure_ (i := 11) (N := some 100) (v := undef) (a' := ?_) #[true, true, true, true, true, true, true, true, true, true, true, true, false, false, false, false, false, false, false, false] rfl rfl (by kernel_rfl) (fun _ _ _ h => h) (Or.inr ⟨by rfl, rfl⟩) ?_ ?_
                          rotate_left
                          · simp only [Act.put, List.setIfInBounds_toArray, List.set_cons_zero, List.set_cons_succ, i64_w, i32_w]
                            rfl
                          refine pure_ (i := 12) (N := some 101) (v := undef) (a' := ?_) #[true, true, true, true, true, true, true, true, true, true, true, true, true, false, false, false, false, false, false, false] rfl rfl (by kernel_rfl) (fun _ _ _ h => h) (Or.inr ⟨by rfl, rfl⟩) ?_ ?_
                          rotate_left
                          · simp only [Act.put, List.setIfInBounds_toArray, List.set_cons_zero, List.set_cons_succ, i64_w, i32_w]
                            rfl
                          refine pure_ (i := 13) (N := some 102) (v := undef) (a' := ?_) #[true, true, true, true, true, true, true, true, true, true, true, true, true, true, false, false, false, false, false, false] rfl rfl (by kernel_rfl) (fun _ _ _ h => h) (Or.inr ⟨by rfl, rfl⟩) ?_ ?_
                          rotate_left
                          · simp only [Act.put, List.setIfInBounds_toArray, List.set_cons_zero, List.set_cons_succ, i64_w, i32_w]
                            rfl
                          refine pure_ (i := 14) (N := some 103) (v := undef) (a' := ?_) #[true, true, true, true, true, true, true, true, true, true, true, true, true, true, true, false, false, false, false, false] rfl rfl (by kernel_rfl) (fun _ _ _ h => h) (Or.inr ⟨by rfl, rfl⟩) ?_ ?_
                          rotate_left
                          · simp only [Act.put, List.setIfInBounds_toArray, List.set_cons_zero, List.set_cons_succ, i64_w, i32_w]
                            rfl
                          refine pure_ (i := 15) (N := some 104) (v := undef) (a' := ?_) #[true, true, true, true, true, true, true, true, true, true, true, true, true, true, true, true, false, false, false, false] rfl rfl (by kernel_rfl) (fun _ _ _ h => h) (Or.inr ⟨by rfl, rfl⟩) ?_ ?_
                          rotate_left
                          · simp only [Act.put, List.setIfInBounds_toArray, List.set_cons_zero, List.set_cons_succ, i64_w, i32_w]
                            rfl
                          refine pure_ (i := 16) (N := some 105) (v := undef) (a' := ?_) #[true, true, true, true, true, true, true, true, true, true, true, true, true, true, true, true, true, false, false, false] rfl rfl (by kernel_rfl) (fun _ _ _ h => h) (Or.inr ⟨by rfl, rfl⟩) ?_ ?_
                          rotate_left
                          · simp only [Act.put, List.setIfInBounds_toArray, List.set_cons_zero, List.set_cons_succ, i64_w, i32_w]
                            rfl
                          refine pure_ (i := 17) (N := some 106) (v := undef) (a' := ?_) #[true, true, true, true, true, true, true, true, true, true, true, true, true, true, true, true, true, true, false, false] rfl rfl (by kernel_rfl) (fun _ _ _ h => h) (Or.inr ⟨by rfl, rfl⟩) ?_ ?_
                          rotate_left
                          · simp only [Act.put, List.setIfInBounds_toArray, List.set_cons_zero, List.set_cons_succ, i64_w, i32_w]
                            rfl
                          refine pure_ (i := 18) (N := some 107) (v := ?_) (a' := ?_) #[true, true, true, true, true, true, true, true, true, true, true, true, true, true, true, true, true, true, true, false] rfl rfl (by kernel_rfl) (fun _ _ _ h => h) (Or.inl ⟨by rfl, ?_⟩) ?_ ?_
                          rotate_left
                          · intro w'
                            go_simp
                            with_reducible rfl
                          rotate_left
                          · simp only [Act.put, List.setIfInBounds_toArray, List.set_cons_zero, List.set_cons_succ, i64_w, i32_w]
                            rfl
                          refine pure_ (i := 19) (N := some 108) (v := ?_) (a' := ?_) #[true, true, true, true, true, true, true, true, true, true, true, true, true, true, true, true, true, true, true, true] rfl rfl (by kernel_rfl) (fun _ _ _ h => h) (Or.inl ⟨by rfl, ?_⟩) ?_ ?_
                          rotate_left
                          · intro w'
                            go_simp
                            with_reducible rfl
                          rotate_left
                          · simp only [Act.put, List.setIfInBounds_toArray, List.set_cons_zero, List.set_cons_succ, i64_w, i32_w]
                            rfl
                          refine done_ (by kernel_rfl) ?_
                          go_wp2
                          go_roundw
                          case rel => exact ⟨i + 1, by omega, by go_num, i, rfl, hfin.out⟩
                          case measure => simp [intOf]; omega
                        · obtain ⟨b, hb0⟩ : ∃ b : Nat, bz = b := ⟨bz.toNat, by omega⟩
                          subst hb0
                          obtain ⟨hbi, hba⟩ := hBI.alive_
                          have h := hRW b (by omega)
                          unfold PKf at h
                          rw [if_pos hba] at h
                          obtain ⟨xb, hb1, hvb, hlb⟩ := h
                          obtain ⟨Ab, cb, eb, hcb, hCb⟩ := Kd.R_reads hb1
                          have hbl : b < ws.length := by omega
                          have hq2 := (ownv_cell hO2 b (by omega)).1
                          rw [eb] at hq2
                          have tb : decide ((b : Int) < 0) = false := by simp
                          have hless : (decide (val xb < val xi)) = decide (rvF t ws b < rvF t ws i) := by
                            have := rv_nn t ws (by rw [← HALL.out]; exact HAP.out) i
                            have := rv_nn t ws (by rw [← HALL.out]; exact HAP.out) b
                            rw [hvb, hvi]
                            apply decide_eq_decide.2; omega
                          have HLS := hidI hless
                          have hfin : Hid (∀ w7, Below wr.drew.heap.size wr.drew w7 → ((rvF t ws b < rvF t ws i → BI t ws j (i + 1) i) ∧ (¬ rvF t ws b < rvF t ws i → BI t ws j (i + 1) b)) ∧ PK t ws w w7 g9 c9 g10 c10 j qs) := fun w7 hb7 => ⟨⟨fun hl => hBI.take hal hl, fun hl => hBI.keep hl⟩, (hPK2.below (drew_b _)).below hb7⟩
                          have HCb := hidI (Kd.C_below hCb (drew_b wr))
                          have HCb2 := hidI hcb
                          have HCi := hidI (Kd.C_below hCi (drew_b wr))
                          have HCi2 := hidI hci
                          have HLb := hidI hlb
                          have HLi := hidI hli
                          clear hBI hPK2 hO1 hO2 hRW hBW h1 HB HJ hCi hCb hb1 eb hvb hlb hcb hli hvi hci hless hbz
                          go_wp2_with fail
                          refine start_ (n := 20) (S := fun w' => w'.cell? ⟨g10, i, Option.none⟩ = some (.slice (some ⟨gi, 0, Option.none⟩) xi.length ci) ∧ w'.cell? ⟨g10, b, Option.none⟩ = some (.slice Ab xb.length cb)) (ds := []) #[false, false, false, false, false, false, false, false, false, false, false, false, false, false, false, false, false, false, false, false] (by kernel_rfl) rfl rfl ⟨hq, hq2⟩ (fun hHeld => ?_)
                          refine pure_ (i := 0) (N := some 89) (v := ?_) (a' := ?_) #[true, false, false, false, false, false, false, false, false, false, false, false, false, false, false, false, false, false, false, false] rfl rfl (by kernel_rfl) (fun _ _ _ h => h) (Or.inl ⟨by rfl, ?_⟩) ?_ ?_
                          rotate_left
                          · intro w'
                            go_simp
                            with_reducible rfl
                          rotate_left
                          · simp only [Act.put, List.setIfInBounds_toArray, List.set_cons_zero, List.set_cons_succ, i64_w, i32_w]
                            rfl
                          refine pure_ (i := 1) (N := some 90) (v := ?_) (a' := ?_) #[true, true, false, false, false, false, false, false, false, false, false, false, false, false, false, false, false, false, false, false] rfl rfl (by kernel_rfl) (fun _ _ _ h => h) (Or.inl ⟨by rfl, ?_⟩) ?_ ?_
                          rotate_left
                          · intro w'
                            go_simp
                            with_reducible rfl
                          rotate_left
                          · simp only [Act.put, List.setIfInBounds_toArray, List.set_cons_zero, List.set_cons_succ, i64_w, i32_w]
                            rfl
                          refine pure_ (i := 2) (N := some 91) (v := ?_) (a' := ?_) #[true, true, true, false, false, false, false, false, false, false, false, false, false, false, false, false, false, false, false, false] rfl rfl (by kernel_rfl) (fun _ _ _ h => h) (Or.inl ⟨by rfl, ?_⟩) ?_ ?_
                          rotate_left
                          · intro w'
                            go_simp
                            with_reducible rfl
                          rotate_left
                          · simp only [Act.put, List.setIfInBounds_toArray, List.set_cons_zero, List.set_cons_succ, i64_w, i32_w]
                            rfl
                          refine take_ (i := 3) (N := some 92) (v := ?_) (a' := ?_) #[true, true, true, true, false, false, false, false, false, false, false, false, false, false, false, false, false, false, false, false] rfl rfl (by kernel_rfl) (fun _ _ _ h => h) (Or.inl ⟨by rfl, ?_⟩) hHeld ?_ ?_
                          rotate_left
                          · rintro w' ⟨s0, s1⟩
                            go_simp
                            with_reducible rfl
                          rotate_left
                          · simp only [Act.put, List.setIfInBounds_toArray, List.set_cons_zero, List.set_cons_succ, i64_w, i32_w]
                            rfl
                          refine pure_ (i := 4) (N := some 93) (v := ?_) (a' := ?_) #[true, true, true, true, true, false, false, false, false, false, false, false, false, false, false, false, false, false, false, false] rfl rfl (by kernel_rfl) (fun _ _ _ h => h) (Or.inl ⟨by rfl, ?_⟩) ?_ ?_
                          rotate_left
                          · intro w'
                            go_simp
                            with_reducible rfl
                          rotate_left
                          · simp only [Act.put, List.setIfInBounds_toArray, List.set_cons_zero, List.set_cons_succ, i64_w, i32_w]
                            rfl
                          refine pure_ (i := 5) (N := some 94) (v := ?_) (a' := ?_) #[true, true, true, true, true, true, false, false, false, false, false, false, false, false, false, false, false, false, false, false] rfl rfl (by kernel_rfl) (fun _ _ _ h => h) (Or.inl ⟨by rfl, ?_⟩) ?_ ?_
                          rotate_left
                          · intro w'
                            go_simp
                            with_reducible rfl
                          rotate_left
                          · simp only [Act.put, List.setIfInBounds_toArray, List.set_cons_zero, List.set_cons_succ, i64_w, i32_w]
                            rfl
                          refine pure_ (i := 6) (N := some 95) (v := ?_) (a' := ?_) #[true, true, true, true, true, true, true, false, false, false, false, false, false, false, false, false, false, false, false, false] rfl rfl (by kernel_rfl) (fun _ _ _ h => h) (Or.inl ⟨by rfl, ?_⟩) ?_ ?_
                          rotate_left
                          · intro w'
                            go_simp
                            with_reducible rfl
                          rotate_left
                          · simp only [Act.put, List.setIfInBounds_toArray, List.set_cons_zero, List.set_cons_succ, i64_w, i32_w]
                            rfl
                          refine pure_ (i := 7) (N := some 96) (v := ?_) (a' := ?_) #[true, true, true, true, true, true, true, true, false, false, false, false, false, false, false, false, false, false, false, false] rfl rfl (by kernel_rfl) (fun _ _ _ h => h) (Or.inl ⟨by rfl, ?_⟩) ?_ ?_
                          rotate_left
                          · intro w'
                            go_simp
                            with_reducible rfl
                          rotate_left
                          · simp only [Act.put, List.setIfInBounds_toArray, List.set_cons_zero, List.set_cons_succ, i64_w, i32_w]
                            rfl
                          refine pure_ (i := 8) (N := some 97) (v := ?_) (a' := ?_) #[true, true, true, true, true, true, true, true, true, false, false, false, false, false, false, false, false, false, false, false] rfl rfl (by kernel_rfl) (fun _ _ _ h => h) (Or.inl ⟨by rfl, ?_⟩) ?_ ?_
                          rotate_left
                          · intro w'
                            go_simp
                            with_reducible rfl
                          rotate_left
                          · simp only [Act.put, List.setIfInBounds_toArray, List.set_cons_zero, List.set_cons_succ, i64_w, i32_w]
                            rfl
                          refine pure_ (i := 9) (N := some 98) (v := ?_) (a' := ?_) #[true, true, true, true, true, true, true, true, true, true, false, false, false, false, false, false, false, false, false, false] rfl rfl (by kernel_rfl) (fun _ _ _ h => h) (Or.inl ⟨by rfl, ?_⟩) ?_ ?_
                          rotate_left
                          · intro w'
                            go_simp
                            with_reducible rfl
                          rotate_left
                          · simp only [Act.put, List.setIfInBounds_toArray, List.set_cons_zero, List.set_cons_succ, i64_w, i32_w]
                            rfl
                          refine pure_ (i := 10) (N := some 99) (v := ?_) (a' := ?_) #[true, true, true, true, true, true, true, true, true, true, true, false, false, false, false, false, false, false, false, false] rfl rfl (by kernel_rfl) (fun _ _ _ h => h) (Or.inl ⟨by rfl, ?_⟩) ?_ ?_
                          rotate_left
                          · intro w'
                            go_simp
                            with_reducible rfl
                          rotate_left
                          · simp only [Act.put, List.setIfInBounds_toArray, List.set_cons_zero, List.set_cons_succ, i64_w, i32_w]
                            rfl
                          refine pure_ (i := 11) (N := some 100) (v := ?_) (a' := ?_) #[true, true, true, true, true, true, true, true, true, true, true, true, false, false, false, false, false, false, false, false] rfl rfl (by kernel_rfl) (fun _ _ _ h => h) (Or.inl ⟨by rfl, ?_⟩) ?_ ?_
                          rotate_left
                          · intro w'
                            go_simp
                            with_reducible rfl
                          rotate_left
                          · simp only [Act.put, List.setIfInBounds_toArray, List.set_cons_zero, List.set_cons_succ, i64_w, i32_w]
                            rfl
                          refine pure_ (i := 13) (N := some 102) (v := ?_) (a' := ?_) #[true, true, true, true, true, true, true, true, true, true, true, true, false, true, false, false, false, false, false, false] rfl rfl (by kernel_rfl) (fun _ _ _ h => h) (Or.inl ⟨by rfl, ?_⟩) ?_ ?_
                          rotate_left
                          · intro w'
                            go_simp
                            with_reducible rfl
                          rotate_left
                          · simp only [Act.put, List.setIfInBounds_toArray, List.set_cons_zero, List.set_cons_succ, i64_w, i32_w]
                            rfl
                          refine pure_ (i := 14) (N := some 103) (v := ?_) (a' := ?_) #[true, true, true, true, true, true, true, true, true, true, true, true, false, true, true, false, false, false, false, false] rfl rfl (by kernel_rfl) (fun _ _ _ h => h) (Or.inl ⟨by rfl, ?_⟩) ?_ ?_
                          rotate_left
                          · intro w'
                            go_simp
                            with_reducible rfl
                          rotate_left
                          · simp only [Act.put, List.setIfInBounds_toArray, List.set_cons_zero, List.set_cons_succ, i64_w, i32_w]
                            rfl
                          refine pure_ (i := 15) (N := some 104) (v := ?_) (a' := ?_) #[true, true, true, true, true, true, true, true, true, true, true, true, false, true, true, true, false, false, false, false] rfl rfl (by kernel_rfl) (fun _ _ _ h => h) (Or.inl ⟨by rfl, ?_⟩) ?_ ?_
                          rotate_left
                          · intro w'
                            go_simp
                            with_reducible rfl
                          rotate_left
                          · simp only [Act.put, List.setIfInBounds_toArray, List.set_cons_zero, List.set_cons_succ, i64_w, i32_w]
                            rfl
                          refine take_ (i := 12) (N := some 101) (v := ?_) (a' := ?_) #[true, true, true, true, true, true, true, true, true, true, true, true, true, true, true, true, false, false, false, false] rfl rfl (by kernel_rfl) (fun _ _ _ h => h) (Or.inl ⟨by rfl, ?_⟩) hHeld ?_ ?_
                          rotate_left
                          · rintro w' ⟨s0, s1⟩
                            go_simp
                            with_reducible rfl
                          rotate_left
                          · simp only [Act.put, List.setIfInBounds_toArray, List.set_cons_zero, List.set_cons_succ, i64_w, i32_w]
                            rfl
                          refine take_ (i := 16) (N := some 105) (v := ?_) (a' := ?_) #[true, true, true, true, true, true, true, true, true, true, true, true, true, true, true, true, true, false, false, false] rfl rfl (by kernel_rfl) (fun _ _ _ h => h) (Or.inl ⟨by rfl, ?_⟩) hHeld ?_ ?_
                          rotate_left
                          · rintro w' ⟨s0, s1⟩
                            go_simp
                            with_reducible rfl
                          rotate_left
                          · simp only [Act.put, List.setIfInBounds_toArray, List.set_cons_zero, List.set_cons_succ, i64_w, i32_w]
                            rfl
                          refine one_ (i := 17) (N := some 106) #[true, true, true, true, true, true, true, true, true, true, true, true, true, true, true, true, true, true, false, false] rfl rfl (by kernel_rfl) (by decide) (fun K hK => ?_)
                          refine goes_ Try.func47 (by kernel_rfl) rfl #[.slice Ab xb.length cb, .slice (some ⟨gi, 0, Option.none⟩) xi.length ci] (by rfl) rfl rfl (by simp only [List.map_toArray, List.map_cons, List.map_nil]; rfl) ?_
                          with_reducible refine (less_c _ _ _ _ _ _ _ HCb.out HCb2.out HCi.out HCi2.out HLb.out HLi.out).mono ?_
                          rintro e w7 ⟨rfl, hb7⟩
                          refine ⟨_, rfl, ?_⟩
                          refine hK.out _ _ ⟨pw_cell_below hb7 hq, pw_cell_below hb7 hq2⟩ (fun hHeld => ?_)
                          clear hK K
                          refine norm_ (a' := ?_) ?_ ?_
                          rotate_left
                          · show Act.put _ (some 106) _ = _
                            simp only [Act.put, List.setIfInBounds_toArray, List.set_cons_zero, List.set_cons_succ, i64_w, i32_w]
                            rfl
                          refine pure_ (i := 18) (N := some 107) (v := ?_) (a' := ?_) #[true, true, true, true, true, true, true, true, true, true, true, true, true, true, true, true, true, true, true, false] rfl rfl (by kernel_rfl) (fun _ _ _ h => h) (Or.inl ⟨by rfl, ?_⟩) ?_ ?_
                          rotate_left
                          · intro w'
                            go_simp
                            with_reducible rfl
                          rotate_left
                          · simp only [Act.put, List.setIfInBounds_toArray, List.set_cons_zero, List.set_cons_succ, i64_w, i32_w]
                            rfl
                          refine pure_ (i := 19) (N := some 108) (v := ?_) (a' := ?_) #[true, true, true, true, true, true, true, true, true, true, true, true, true, true, true, true, true, true, true, true] rfl rfl (by kernel_rfl) (fun _ _ _ h => h) (Or.inl ⟨by rfl, ?_⟩) ?_ ?_
                          rotate_left
                          · intro w'
                            go_simp
                            with_reducible rfl
                          rotate_left
                          · simp only [Act.put, List.setIfInBounds_toArray, List.set_cons_zero, List.set_cons_succ, i64_w, i32_w]
                            rfl
                          refine done_ (by kernel_rfl) ?_
                          have hf7 := hfin.out w7 hb7
                          rw [HLS.out]
                          by_cases hl : rvF t ws b < rvF t ws i
                          · have hfin2 : Hid (BI t ws j (i + 1) i ∧ PK t ws w w7 g9 c9 g10 c10 j qs) := ⟨hf7.1.1 hl, hf7.2⟩
                            rw [decide_eq_true hl]
                            clear hf7 hfin HLS hl hb7
                            go_wp2
                            go_roundw
                            case rel => exact ⟨i + 1, by omega, by go_num, i, rfl, hfin2.out⟩
                            case measure => simp [intOf]; omega
                          · have hfin2 : Hid (BI t ws j (i + 1) b ∧ PK t ws w w7 g9 c9 g10 c10 j qs) := ⟨hf7.1.2 (by omega), hf7.2⟩
                            rw [decide_eq_false hl]
                            clear hf7 hfin HLS hl hb7
                            go_wp2
                            go_roundw
                            case rel => exact ⟨i + 1, by omega, by go_num, b, rfl, hfin2.out⟩
                            case measure => simp [intOf]; omega
                    · obtain rfl : i = ws.length := by omega
                      obtain ⟨hBI, hPK⟩ := HB.out
                      have hjl : j < ws.length := by omega
                      obtain ⟨b, rfl, hbn, hord⟩ := hBI.end_ htn HNN.out (by rw [← HALL.out]; exact HAP.out) (HLF.out j hlt) hjl
                      obtain ⟨hO1, ⟨rs, hrs, hO2, hRW⟩, hBW⟩ := hPK
                      have hjl2 : j < (ordF t ws).length := by rw [ord_len]; exact hjl
                      have hvalid : ∀ q ∈ (ordF t ws).take j, 0 ≤ q.f0 ∧ q.f0.toNat < qs.length := by
                        intro q hq
                        obtain ⟨m, hm, rfl⟩ := ord_mem t ws q (List.mem_of_mem_take hq)
                        rw [hql]; simp; omega
                      have hbf := bump_facts ((ordF t ws).take j) qs HQ0.out hvalid
                      have hbs := mem_le_sum _ hbf.1
                      have hbl : (bump qs ((ordF t ws).take j)).length = ws.length := by rw [bump_len, hql]
                      obtain ⟨c3, f3⟩ := own_cell hO1 b (by omega)
                      obtain ⟨x, hx⟩ : ∃ x, x = (bump qs ((ordF t ws).take j))[b] := ⟨_, rfl⟩
                      rw [← hx] at c3
                      have hxb : 0 ≤ x ∧ x < t := by
                        have h1 := hbf.1 x (by rw [hx]; exact List.getElem_mem _)
                        have h2 := hbs x (by rw [hx]; exact List.getElem_mem _)
                        rw [hbf.2, List.length_take, Nat.min_eq_left (by omega)] at h2
                        omega
                      have hst3 : bump qs ((ordF t ws).take (j + 1)) = (bump qs ((ordF t ws).take j)).set b (x + 1) := by
                        rw [List.take_succ_eq_append_getElem hjl2, hord, bump_snoc, List.getD_eq_getElem?_getD]
                        simp only [Int.toNat_natCast]
                        rw [List.getElem?_eq_getElem (by omega), ← hx]; rfl
                      have tb : decide ((b : Int) < 0) = false := by simp
                      have htr := HT.out.2
                      have hg10lt : g10 < wr.heap.size := hO2.lt rfl
                      have hg9lt : g9 < wr.heap.size := hO1.lt rfl
                      have hO1s := own_set hO1 b (by omega) (x + 1)
                      have hO2s := hO2.far (p := ⟨g9, b, Option.none⟩) (fun e => hO1.ne_own hO2 (by decide) g9 rfl e) (.int .i64 (x + 1))
                      have hne := hO2s.ne_own hO1s (by decide) g10 rfl
                      have hO1t := hO1s.far (p := ⟨g10, b, Option.none⟩) (fun e => hne e) (.slice Option.none 0 0)
                      have hO2t := ownv_set hO2s b (by omega) (.slice Option.none 0 0) rfl
                      have hw1 : w.heap.size ≤ g9 := hg9b
                      have hw2 : w.heap.size ≤ g10 := hg10b
                      have hB1 := hBW.setCell (p := ⟨g9, b, Option.none⟩) hw1 (.int .i64 (x + 1))
                      have hB2 := hB1.setCell (p := ⟨g10, b, Option.none⟩) hw2 (.slice Option.none 0 0)
                      have hR1 : ∃ cs, wr.heap[g9]? = some (.cells cs 2 (0, 0)) := hO1.at_ rfl
                      obtain ⟨cs9, hcs9⟩ := hR1
                      obtain ⟨cs10, hcs10⟩ := hO2s.at_ (k := g10) rfl
                      have hRW2 := (hRW.set hcs9 (by decide) b (.int .i64 (x + 1))).set hcs10 (by decide) b (.slice Option.none 0 0)
                      have hfin : Hid (PK t ws w ((wr.setCell ⟨g9, b, Option.none⟩ (.int .i64 (x + 1))).setCell ⟨g10, b, Option.none⟩ (.slice Option.none 0 0)) g9 c9 g10 c10 (j + 1) qs) := by
                        refine ⟨by rw [hst3]; exact hO1t, ⟨rs.set b (.slice Option.none 0 0), by simp [hrs], hO2t, ?_⟩, hB2⟩
                        exact rows_next hjl2 hord hRW2
                      have f4 : wr.frozen? ⟨g10, b, Option.none⟩ = false := (ownv_cell hO2 b (by omega)).2
                      obtain ⟨v4, c4⟩ : ∃ v4, wr.cell? ⟨g10, b, Option.none⟩ = some v4 := ⟨_, (ownv_cell hO2 b (by omega)).1⟩
                      have n1 : ¬ (g9 = g10) := fun e => hO1.ne_own hO2 (by decide) g9 rfl (by rw [e]; rfl)
                      have n2 : ¬ (g10 = g9) := fun e => n1 e.symm
                      clear hBI hO1 hO2 hRW hBW hvalid hbf hbs hbl hst3 hO1s hO2s hne hO1t hO2t hB1 hB2 hcs9 hcs10 hRW2 HB HJ hx
                      go_wp2
                      go_roundw
                      case rel => exact ⟨j + 1, by omega, by go_num, hfin⟩
                      case measure => simp [intOf]; omega
                · obtain rfl : j = lf := by omega
                  have tl : decide (((j : Int) - j) > 0) = false := by simp
                  obtain ⟨hO1, _, hB⟩ := HJ.out
                  have hF : Hid (SplitP t ws w (.returned (.tuple #[.slice (some ⟨g9, 0, Option.none⟩) ws.length c9, .int .i64 0])) wr) := by
                    refine ⟨_, by rw [hst.out], ?_, hB⟩
                    rw [hst.out]
                    simp only []
                    rw [HPF.out]
                    have h := hO1
                    unfold Own at h
                    rw [flat_li, bump_len, hql] at h
                    rw [bump_len, hql]
                    exact h
                  clear hO1 hB HJ
                  go_wp2
                  go_ret2
                  exact hF.out
      · rw [if_neg hov] at ha
        have e : sumR (addF 0 ws) = (0, false) := by rw [ha]; rfl
        rw [e] at hs
        clear ha e
        by_cases ht0 : t < 0
        · have hfin := hidI (fun n => HF.out 1 (w.drewN n) (by rw [hst.out, if_pos ht0]) (below_drN _ n))
          clear hst HF
          go_wp2_with fail
          refine (hs.out _ HR.out).mono ?_
          rintro e w' ⟨rfl, ⟨n, rfl⟩⟩
          simp only []
          go_wp2
          go_ret2
          exact hfin.out n
        · have hfin := hidI (fun n => HF.out 2 (w.drewN n) (by rw [hst.out, if_neg ht0, if_pos hov]) (below_drN _ n))
          clear hst HF
          go_wp2_with fail
          refine (hs.out _ HR.out).mono ?_
          rintro e w' ⟨rfl, ⟨n, rfl⟩⟩
          simp only []
          go_wp2
          go_ret2
          exact hfin.out n
end Go.Proofs.Ytncnhhnbjmpomaa
namespace Go.Proofs.Ytncnhhnbjmpomaa.Q
open Go.RowKit Go.Proofs.YtncnhhnbjmpomaaW.PrintWords Go.Proofs.YtncnhhnbjmpomaaW.PrintLast Go.Proofs.Ytncnhhnbjmpomaa
set_option linter.unusedVariables false
set_option linter.unusedSimpArgs false
def soukref01_Split.f (a0 : Int) (l1 : List Int) : Option (List Int × Int) := if l1.length ≤ 1000 ∧ l1.all inRb = true ∧ inRb a0 = true then some (splitF a0 l1) else none
theorem soukref01_Split.calls (a0 : Int) (A1 : Option Addr) (c1 : Nat) (l1 : List Int) (r1 : List Int) (r2 : Int) (w : World) (hr1 : Kd.C (Kd.int .i64) w A1 l1.length l1) (hc1 : l1.length ≤ c1) (h : soukref01_Split.f a0 l1 = some (r1, r2)) :
    Calls Try.prog 21 #[.int .i64 a0, .slice A1 l1.length c1] w fun e w' => ∃ v0_ : Value, e = .returned (.tuple #[v0_, .int .i64 r2]) ∧ Kd.R (Kd.int .i64) 2 w' w.heap.size (fun _ => True) v0_ r1 ∧ Below w.heap.size w w' := by
  unfold soukref01_Split.f at h
  split at h
  · rename_i hb
    obtain ⟨h1, h2, h3⟩ := hb
    simp only [Option.some.injEq] at h
    refine (rsplit_any a0 A1 c1 l1 w hr1 hc1 h1 (fun x hx => (inRb_iff x).1 (List.all_eq_true.1 h2 x hx)) ((inRb_iff a0).1 h3)).mono ?_
    rintro e w' ⟨v, he, ho, hb⟩
    rw [h] at he ho
    exact ⟨v, he, Kd.R_of_own ho (fun _ _ => trivial), hb⟩
  · cases h
end Go.Proofs.Ytncnhhnbjmpomaa.Q
namespace Go.Proofs.Ytncnhhnbjmpomaa.Q
open Go.RowKit Go.Proofs.YtncnhhnbjmpomaaW.PrintWords Go.Proofs.YtncnhhnbjmpomaaW.PrintLast Go.Proofs.YtncnhhnbjmpomaaW.PrintMore
attribute [local go_sem] max2_int min2_int max_two min_two max_three min_three max_four min_four   -- for this text's walks alone
set_option linter.unusedVariables false
set_option linter.unusedSimpArgs false
def soukref11_Take.l0 : Nat → List Int → Int → Int → Option (List Int × Int)
 | 0, _, _, _ => none
 | k + 1, x0, x1, x6 => if x6 < (x0.length : Int) then (if 0 ≤ x6 then (if (rd x0 x6) < 0 then (some (([] : List Int), 1)) else (soukref11_Take.l0 k x0 x1 (wrap64 (x6 + 1)))) else (none)) else (if x1 ≤ 0 then (some (([] : List Int), 1)) else ((soukref01_Sum.f k x0).bind fun bt477 => (if bt477.2 = true then (if x1 > bt477.1 then (some (([] : List Int), 10)) else ((soukref01_Split.f x1 x0).bind fun bt479 => (some (bt479.1, bt479.2)))) else (some (([] : List Int), 2)))))
def soukref11_Take.f (k : Nat) (l0 : List Int) (a1 : Int) : Option (List Int × Int) := soukref11_Take.l0 k l0 a1 0
set_option maxHeartbeats 8000000 in
set_option maxRecDepth 100000 in
theorem soukref11_Take.calls (k : Nat) (A0 : Option Addr) (c0 : Nat) (l0 : List Int) (a1 : Int) (r1 : List Int) (r2 : Int) (w : World) (hr0 : Kd.C (Kd.int .i64) w A0 l0.length l0) (hc0 : l0.length ≤ c0) (h : soukref11_Take.f k l0 a1 = some (r1, r2)) :
  Calls Try.prog 26 #[.slice A0 l0.length c0, .int .i64 a1] w fun e w' => ∃ v0_ : Value, e = .returned (.tuple #[v0_, .int .i64 r2]) ∧ Kd.R (Kd.int .i64) 2 w' w.heap.size (fun _ => True) v0_ r1 ∧ Below w.heap.size w w' := by
 have HR0 := Aside0.mk hr0
 have HC0 := Aside0.mk hc0
 clear hr0 hc0
 have HB := Aside0.mk (Below.refl w.heap.size w)
 have H : (soukref11_Take.l0 k l0 a1 0) = some (r1, r2) := h
 clear h
 have H' := Aside0.mk H
 clear H
 go_enter Try.func26, Try.ntmps26
 go_wp2
 go_loopg [6] k (fun kq v6 w' => ∃ (x6_1 : Int), v6 = .int .i64 x6_1 ∧ Aside0 (soukref11_Take.l0 kq l0 a1 x6_1 = some (r1, r2)) ∧ Aside0 (kq ≤ k) ∧ Aside0 (Below w.heap.size w w'))
 case atStart => exact ⟨(0), (by first | rfl | (simp; done) | (simp [*]; done)), H', ⟨Nat.le_refl _⟩, ⟨by repeat (first | (with_reducible first | exact HB.out | apply below_alloc | apply pw_below_drewN | apply below_drew1) | exact HB.out)⟩⟩
 case round =>
  clear H'
  try clear c2
  try clear p2
  obtain ⟨x6_1, rfl, HA, HK1, HB⟩ := hrel
  cases gk with
  | zero => exact absurd HA.out (by simp [soukref11_Take.l0])
  | succ k1 =>
   have H := HA.out
   clear HA
   simp only [soukref11_Take.l0] at H
   by_cases c3 : x6_1 < (l0.length : Int)
   ·rw [if_pos c3] at H
    have c3b0 : decide (x6_1 < (l0.length : Int)) = true := decide_eq_true c3
    clear c3
    by_cases c4 : 0 ≤ x6_1
    ·rw [if_pos c4] at H
     have c4b0 : decide (0 ≤ x6_1) = true := decide_eq_true c4
     clear c4
     by_cases c5 : (rd l0 x6_1) < 0
     ·rw [if_pos c5] at H
      have c5b0 : decide ((rd l0 x6_1) < 0) = true := decide_eq_true c5
      clear c5
      simp only [Option.some.injEq, Prod.mk.injEq] at H
      obtain ⟨rfl, rfl⟩ := H
      have p476 : 0 ≤ (x6_1 : Int) := of_decide_eq_true (by first | (with_reducible assumption) | assumption)
      have q476 : x6_1 < (l0.length : Int) := of_decide_eq_true (by first | (with_reducible assumption) | assumption)
      obtain ⟨ad476, e476, hx476_0⟩ := Kd.at_int HR0.out x6_1 p476 q476
      cases e476
      replace hx476_0 := (HB.out.cell (World.block_lt_of_cell? w _ hx476_0)).trans hx476_0
      replace p476 := eq_true p476
      replace q476 := eq_true q476
      go_wp2
      go_ret2
      exact ⟨_, by first | rfl | (simp [errW_none, errW_some] <;> rfl) | (simp [*, errW_none, errW_some] <;> rfl), by first | exact Kd.R_nil _ _ _ _ _ | exact Kd.N_nil _ _ _ _ _ | exact Kd.V_nil _ _ _ _ _ | exact Kd.Q_nil _ _ _ _ _ | exact Kd.S_nil _ _ _ _ _, by repeat (first | (with_reducible first | exact HB.out | apply below_alloc | apply pw_below_drewN | apply below_drew1) | exact HB.out)⟩
     ·rw [if_neg c5] at H
      have c5b0 : decide ((rd l0 x6_1) < 0) = false := decide_eq_false c5
      clear c5
      have H' := Aside0.mk H
      clear H
      have p476 : 0 ≤ (x6_1 : Int) := of_decide_eq_true (by first | (with_reducible assumption) | assumption)
      have q476 : x6_1 < (l0.length : Int) := of_decide_eq_true (by first | (with_reducible assumption) | assumption)
      obtain ⟨ad476, e476, hx476_0⟩ := Kd.at_int HR0.out x6_1 p476 q476
      cases e476
      replace hx476_0 := (HB.out.cell (World.block_lt_of_cell? w _ hx476_0)).trans hx476_0
      replace p476 := eq_true p476
      replace q476 := eq_true q476
      go_wp2
      go_roundg k1
      case measure => have := HK1.out; omega
      case rel => exact ⟨(wrap64 (x6_1 + 1)), (by first | rfl | (simp; done) | (simp [*]; done)), H', ⟨by have := HK1.out; omega⟩, ⟨by repeat (first | (with_reducible first | exact HB.out | apply below_alloc | apply pw_below_drewN | apply below_drew1) | exact HB.out)⟩⟩
    ·rw [if_neg c4] at H
     exact absurd H (by simp)
   ·rw [if_neg c3] at H
    have c3b0 : decide (x6_1 < (l0.length : Int)) = false := decide_eq_false c3
    clear c3
    by_cases c6 : a1 ≤ 0
    ·rw [if_pos c6] at H
     have c6b0 : decide (a1 ≤ 0) = true := decide_eq_true c6
     clear c6
     simp only [Option.some.injEq, Prod.mk.injEq] at H
     obtain ⟨rfl, rfl⟩ := H
     go_wp2
     go_ret2
     exact ⟨_, by first | rfl | (simp [errW_none, errW_some] <;> rfl) | (simp [*, errW_none, errW_some] <;> rfl), by first | exact Kd.R_nil _ _ _ _ _ | exact Kd.N_nil _ _ _ _ _ | exact Kd.V_nil _ _ _ _ _ | exact Kd.Q_nil _ _ _ _ _ | exact Kd.S_nil _ _ _ _ _, by repeat (first | (with_reducible first | exact HB.out | apply below_alloc | apply pw_below_drewN | apply below_drew1) | exact HB.out)⟩
    ·rw [if_neg c6] at H
     have c6b0 : decide (a1 ≤ 0) = false := decide_eq_false c6
     clear c6
     replace H := Option.bind_eq_some_iff.mp H
     obtain ⟨⟨t477, t478⟩, A70, H⟩ := H
     replace H : (if t478 = true then (if a1 > t477 then (some (([] : List Int), 10)) else ((soukref01_Split.f a1 l0).bind fun bt479 => (some (bt479.1, bt479.2)))) else (some (([] : List Int), 2))) = some (r1, r2) := H
     have A7 := Aside0.mk A70
     clear A70
     by_cases c8 : t478 = true
     ·subst c8
      have H1 : (if a1 > t477 then (some (([] : List Int), 10)) else ((soukref01_Split.f a1 l0).bind fun bt479 => (some (bt479.1, bt479.2)))) = some (r1, r2) := by rw [if_pos rfl] at H; exact H
      clear H
      have H := H1
      clear H1
      by_cases c9 : a1 > t477
      ·rw [if_pos c9] at H
       have c9b0 : decide (t477 < a1) = true := decide_eq_true c9
       clear c9
       simp only [Option.some.injEq, Prod.mk.injEq] at H
       obtain ⟨rfl, rfl⟩ := H
       go_wp2_with (first | ((with_reducible refine gate_callee (f := 14) rfl ?_); refine goesL_ (some 24) rfl rfl Try.func14 (by kernel_rfl) rfl #[.slice A0 l0.length c0] rfl (by (try simp only [List.map_toArray, List.map_cons, List.map_nil]); first | done | rfl | (simp only [List.length_drop, List.length_take]; rfl)) ?_; (with_reducible refine (soukref01_Sum.calls k1 _ _ l0 t477 true _ ?side1 ?side2 A7.out).mono ?_); (case side1 => repeat (first | exact (Kd.C_below HR0.out HB.out) | (with_reducible refine Kd.C_alloc ?_ _) | (with_reducible refine Kd.C_drewN ?_ _) | (with_reducible refine Kd.C_drew ?_))); (case side2 => exact HC0.out); rintro e w' ⟨rfl, ⟨nd, rfl⟩⟩; refine ⟨_, rfl, ?_⟩))
       go_ret2
       exact ⟨_, by first | rfl | (simp [errW_none, errW_some] <;> rfl) | (simp [*, errW_none, errW_some] <;> rfl), by first | exact Kd.R_nil _ _ _ _ _ | exact Kd.N_nil _ _ _ _ _ | exact Kd.V_nil _ _ _ _ _ | exact Kd.Q_nil _ _ _ _ _ | exact Kd.S_nil _ _ _ _ _, by repeat (first | (with_reducible first | exact HB.out | apply below_alloc | apply pw_below_drewN | apply below_drew1) | exact HB.out)⟩
      ·rw [if_neg c9] at H
       have c9b0 : decide (t477 < a1) = false := decide_eq_false c9
       clear c9
       replace H := Option.bind_eq_some_iff.mp H
       obtain ⟨⟨t479, t480⟩, A100, H⟩ := H
       replace H : (some (t479, t480)) = some (r1, r2) := H
       have A10 := Aside0.mk A100
       clear A100
       simp only [Option.some.injEq, Prod.mk.injEq] at H
       obtain ⟨rfl, rfl⟩ := H
       go_wp2_with (first | ((with_reducible refine gate_callee (f := 14) rfl ?_); refine goesL_ (some 24) rfl rfl Try.func14 (by kernel_rfl) rfl #[.slice A0 l0.length c0] rfl (by (try simp only [List.map_toArray, List.map_cons, List.map_nil]); first | done | rfl | (simp only [List.length_drop, List.length_take]; rfl)) ?_; (with_reducible refine (soukref01_Sum.calls k1 _ _ l0 t477 true _ ?side1 ?side2 A7.out).mono ?_); (case side1 => repeat (first | exact (Kd.C_below HR0.out HB.out) | (with_reducible refine Kd.C_alloc ?_ _) | (with_reducible refine Kd.C_drewN ?_ _) | (with_reducible refine Kd.C_drew ?_))); (case side2 => exact HC0.out); rintro e w' ⟨rfl, ⟨nd, rfl⟩⟩; refine ⟨_, rfl, ?_⟩) | ((with_reducible refine gate_callee (f := 21) rfl ?_); refine goesL_ (some 34) rfl rfl Try.func21 (by kernel_rfl) rfl #[.int .i64 a1, .slice A0 l0.length c0] rfl (by (try simp only [List.map_toArray, List.map_cons, List.map_nil]); first | done | rfl | (simp only [List.length_drop, List.length_take]; rfl)) ?_; (with_reducible refine (soukref01_Split.calls a1 _ _ l0 t479 t480 _ ?side1 ?side2 A10.out).mono ?_); (case side1 => repeat (first | exact (Kd.C_below HR0.out (by repeat (first | (with_reducible first | exact HB.out | apply below_alloc | apply pw_below_drewN | apply below_drew1) | exact HB.out))) | (with_reducible refine Kd.C_alloc ?_ _) | (with_reducible refine Kd.C_drewN ?_ _) | (with_reducible refine Kd.C_drew ?_))); (case side2 => exact HC0.out); rintro e w11 ⟨v481, rfl, ho0, hb⟩; refine ⟨_, rfl, ?_⟩; have n0_ := Aside0.mk (Kd.R_lower ho0 (below_size (by repeat (first | (with_reducible first | exact HB.out | apply below_alloc | apply pw_below_drewN | apply below_drew1) | exact HB.out)))); have n1_ := Aside0.mk (below_step (by repeat (first | (with_reducible first | exact HB.out | apply below_alloc | apply pw_below_drewN | apply below_drew1) | exact HB.out)) hb); clear HB; have HO482 := n0_; have HB := n1_; clear n0_ n1_; (try clear hb); (try clear hb2); (try clear hk); (try clear hi); (try clear ho0)))
       go_ret2
       exact ⟨_, by first | rfl | (simp [errW_none, errW_some] <;> rfl) | (simp [*, errW_none, errW_some] <;> rfl), by (with_reducible repeat (first | apply Kd.R_alloc | apply Kd.R_drewN | apply Kd.R_drew)); exact HO482.out, by repeat (first | (with_reducible first | exact HB.out | apply below_alloc | apply pw_below_drewN | apply below_drew1) | exact HB.out)⟩
     ·replace c8 := Bool.eq_false_iff.mpr c8
      subst c8
      have H1 : (some (([] : List Int), 2)) = some (r1, r2) := by rw [if_neg (show ¬ (false = true) by decide)] at H; exact H
      clear H
      have H := H1
      clear H1
      simp only [Option.some.injEq, Prod.mk.injEq] at H
      obtain ⟨rfl, rfl⟩ := H
      go_wp2_with (first | ((with_reducible refine gate_callee (f := 14) rfl ?_); refine goesL_ (some 24) rfl rfl Try.func14 (by kernel_rfl) rfl #[.slice A0 l0.length c0] rfl (by (try simp only [List.map_toArray, List.map_cons, List.map_nil]); first | done | rfl | (simp only [List.length_drop, List.length_take]; rfl)) ?_; (with_reducible refine (soukref01_Sum.calls k1 _ _ l0 t477 false _ ?side1 ?side2 A7.out).mono ?_); (case side1 => repeat (first | exact (Kd.C_below HR0.out HB.out) | (with_reducible refine Kd.C_alloc ?_ _) | (with_reducible refine Kd.C_drewN ?_ _) | (with_reducible refine Kd.C_drew ?_))); (case side2 => exact HC0.out); rintro e w' ⟨rfl, ⟨nd, rfl⟩⟩; refine ⟨_, rfl, ?_⟩))
      go_ret2
      exact ⟨_, by first | rfl | (simp [errW_none, errW_some] <;> rfl) | (simp [*, errW_none, errW_some] <;> rfl), by first | exact Kd.R_nil _ _ _ _ _ | exact Kd.N_nil _ _ _ _ _ | exact Kd.V_nil _ _ _ _ _ | exact Kd.Q_nil _ _ _ _ _ | exact Kd.S_nil _ _ _ _ _, by repeat (first | (with_reducible first | exact HB.out | apply below_alloc | apply pw_below_drewN | apply below_drew1) | exact HB.out)⟩
end Go.Proofs.Ytncnhhnbjmpomaa.Q
namespace Go.Proofs.Ytncnhhnbjmpomaa.Q
open Go.RowKit Go.Proofs.YtncnhhnbjmpomaaW.PrintWords Go.Proofs.YtncnhhnbjmpomaaW.PrintLast Go.Proofs.YtncnhhnbjmpomaaW.PrintMore
attribute [local go_sem] max2_int min2_int max_two min_two max_three min_three max_four min_four   -- for this text's walks alone
set_option linter.unusedVariables false
set_option linter.unusedSimpArgs false
mutual
def souklaw13_ClawTakes.j0 : Nat → List Int → Int → Bool → Option (Bool)
 | 0, _, _, _ => none
 | k + 1, x0, x1, x18 => if x18 = true then ((souklaw13_lives.f k).bind fun t484 => (some t484)) else ((slices_Clone_int64_int64.f x0).bind fun t485 => ((claw_Take.f k x0 x1).bind fun bt488 => ((soukref11_Take.f k x0 x1).bind fun bt492 => (if bt488.2 = bt492.2 then ((slices_Equal_int64_int64.f k bt488.1 bt492.1).bind fun t496 => (if t496 = true then ((slices_Equal_int64_int64.f k x0 t485).bind fun t497 => (souklaw13_ClawTakes.j1 k x0 bt488.1 (!t497))) else (souklaw13_ClawTakes.j1 k x0 bt488.1 true))) else (souklaw13_ClawTakes.j1 k x0 bt488.1 true)))))
def souklaw13_ClawTakes.j1 : Nat → List Int → List Int → Bool → Option (Bool)
 | 0, _, _, _ => none
 | k + 1, x0, x6, x48 => if x48 = true then (some false) else (souklaw13_ClawTakes.l0 k x0 x6 (x6.length : Int) 0)
def souklaw13_ClawTakes.l0 : Nat → List Int → List Int → Int → Int → Option (Bool)
 | 0, _, _, _, _ => none
 | k + 1, x0, x49, x50, x51 => if x51 < x50 then (if 0 ≤ x51 then (if x51 < (x49.length : Int) then (if (rd x49 x51) < 0 then (some false) else (if x51 < (x0.length : Int) then (if (rd x49 x51) > (rd x0 x51) then (some false) else (souklaw13_ClawTakes.l0 k x0 x49 x50 (wrap64 (x51 + 1)))) else (none))) else (none)) else (none)) else (some true)
end
def souklaw13_ClawTakes.f (k : Nat) (l0 : List Int) (a1 : Int) : Option (Bool) := (souklaw13_lives.f k).bind fun t483 => (if t483 = true then (souklaw13_ClawTakes.j0 k l0 a1 (decide ((l0.length : Int) > 30))) else (souklaw13_ClawTakes.j0 k l0 a1 true))
set_option maxHeartbeats 8000000 in
set_option maxRecDepth 100000 in
theorem souklaw13_ClawTakes.calls (k : Nat) (A0 : Option Addr) (c0 : Nat) (l0 : List Int) (a1 : Int) (r : Bool) (w : World) (hr0 : Kd.C (Kd.int .i64) w A0 l0.length l0) (hc0 : l0.length ≤ c0) (h : souklaw13_ClawTakes.f k l0 a1 = some r) :
  Calls Try.prog 6 #[.slice A0 l0.length c0, .int .i64 a1] w fun e w' => e = .returned (.bool r) ∧ Below w.heap.size w w' := by
 have HR0 := Aside0.mk hr0
 have HC0 := Aside0.mk hc0
 clear hr0 hc0
 have HB := Aside0.mk (Below.refl w.heap.size w)
 have H : ((souklaw13_lives.f k).bind fun t483 => (if t483 = true then (souklaw13_ClawTakes.j0 k l0 a1 (decide ((l0.length : Int) > 30))) else (souklaw13_ClawTakes.j0 k l0 a1 true))) = some r := h
 clear h
 have HC3 := Aside0.mk H
 clear H
 go_enter Try.func6, Try.ntmps6
 go_upto_region 1 with (fail)
 go_cut [18] (fun v18 wc => ∃ (kq : Nat) (x18_2 : Bool), v18 = .bool x18_2 ∧ Aside0 (souklaw13_ClawTakes.j0 kq l0 a1 x18_2 = some r) ∧ Aside0 (kq ≤ k) ∧ Aside0 (Below w.heap.size w wc))
 case first =>
  have H := HC3.out
  clear HC3
  replace H := Option.bind_eq_some_iff.mp H
  obtain ⟨t483, A40, H⟩ := H
  replace H : (if t483 = true then (souklaw13_ClawTakes.j0 k l0 a1 (decide ((l0.length : Int) > 30))) else (souklaw13_ClawTakes.j0 k l0 a1 true)) = some r := H
  have A4 := Aside0.mk A40
  clear A40
  by_cases c5 : t483 = true
  ·subst c5
   have H1 : (souklaw13_ClawTakes.j0 k l0 a1 (decide ((l0.length : Int) > 30))) = some r := by rw [if_pos rfl] at H; exact H
   clear H
   have H := H1
   clear H1
   have H' := Aside0.mk H
   clear H
   go_wp2_with (first | ((with_reducible refine gate_callee (f := 23) rfl ?_); refine goesL_ (some 12) rfl rfl Try.func23 (by kernel_rfl) rfl #[] rfl (by (try simp only [List.map_toArray, List.map_cons, List.map_nil]); first | done | rfl | (simp only [List.length_drop, List.length_take]; rfl)) ?_; (with_reducible refine (souklaw13_lives.calls k  true _ A4.out).mono ?_); rintro e w6 ⟨rfl, hb⟩; refine ⟨_, rfl, ?_⟩; have n0_ := Aside0.mk (below_step (by repeat (first | (with_reducible first | exact HB.out | apply below_alloc | apply pw_below_drewN | apply below_drew1) | exact HB.out)) hb); clear HB; have HB := n0_; clear n0_; (try clear hb); (try clear hb2); (try clear hk); (try clear hi)))
   go_meet
   case rel => exact ⟨_, (decide ((l0.length : Int) > 30)), (by first | rfl | (simp; done) | (simp [*]; done)), H', ⟨by first | omega | exact Nat.le_refl _⟩, ⟨by repeat (first | (with_reducible first | exact HB.out | apply below_alloc | apply pw_below_drewN | apply below_drew1) | exact HB.out)⟩⟩
  ·replace c5 := Bool.eq_false_iff.mpr c5
   subst c5
   have H1 : (souklaw13_ClawTakes.j0 k l0 a1 true) = some r := by rw [if_neg (show ¬ (false = true) by decide)] at H; exact H
   clear H
   have H := H1
   clear H1
   have H' := Aside0.mk H
   clear H
   go_wp2_with (first | ((with_reducible refine gate_callee (f := 23) rfl ?_); refine goesL_ (some 12) rfl rfl Try.func23 (by kernel_rfl) rfl #[] rfl (by (try simp only [List.map_toArray, List.map_cons, List.map_nil]); first | done | rfl | (simp only [List.length_drop, List.length_take]; rfl)) ?_; (with_reducible refine (souklaw13_lives.calls k  false _ A4.out).mono ?_); rintro e w7 ⟨rfl, hb⟩; refine ⟨_, rfl, ?_⟩; have n0_ := Aside0.mk (below_step (by repeat (first | (with_reducible first | exact HB.out | apply below_alloc | apply pw_below_drewN | apply below_drew1) | exact HB.out)) hb); clear HB; have HB := n0_; clear n0_; (try clear hb); (try clear hb2); (try clear hk); (try clear hi)))
   go_meet
   case rel => exact ⟨_, (true), (by first | rfl | (simp; done) | (simp [*]; done)), H', ⟨by first | omega | exact Nat.le_refl _⟩, ⟨by repeat (first | (with_reducible first | exact HB.out | apply below_alloc | apply pw_below_drewN | apply below_drew1) | exact HB.out)⟩⟩
 case rest =>
  clear HC3
  try clear c2
  try clear p2
  try clear c5
  try clear c6
  obtain ⟨kq, x18_2, rfl, HA, HJ2, HB⟩ := hcut
  cases kq with
  | zero => exact absurd HA.out (by simp [souklaw13_ClawTakes.j0])
  | succ kj2 =>
   have H := HA.out
   clear HA
   simp only [souklaw13_ClawTakes.j0] at H
   by_cases c8 : x18_2 = true
   ·subst c8
    have H1 : ((souklaw13_lives.f kj2).bind fun t484 => (some t484)) = some r := by rw [if_pos rfl] at H; exact H
    clear H
    have H := H1
    clear H1
    replace H := Option.bind_eq_some_iff.mp H
    obtain ⟨t484, A90, H⟩ := H
    replace H : (some t484) = some r := H
    have A9 := Aside0.mk A90
    clear A90
    obtain rfl := Option.some.inj H
    go_wp2_with (first | ((with_reducible refine gate_callee (f := 23) rfl ?_); refine goesL_ (some 19) rfl rfl Try.func23 (by kernel_rfl) rfl #[] rfl (by (try simp only [List.map_toArray, List.map_cons, List.map_nil]); first | done | rfl | (simp only [List.length_drop, List.length_take]; rfl)) ?_; (with_reducible refine (souklaw13_lives.calls kj2  t484 _ A9.out).mono ?_); rintro e w10 ⟨rfl, hb⟩; refine ⟨_, rfl, ?_⟩; have n0_ := Aside0.mk (below_step (by repeat (first | (with_reducible first | exact HB.out | apply below_alloc | apply pw_below_drewN | apply below_drew1) | exact HB.out)) hb); clear HB; have HB := n0_; clear n0_; (try clear hb); (try clear hb2); (try clear hk); (try clear hi)))
    go_ret
    exact ⟨by first | rfl | (simp [errW_none, errW_some] <;> rfl) | (simp [*, errW_none, errW_some] <;> rfl), by repeat (first | (with_reducible first | exact HB.out | apply below_alloc | apply pw_below_drewN | apply below_drew1) | exact HB.out)⟩
   ·replace c8 := Bool.eq_false_iff.mpr c8
    subst c8
    have H1 : ((slices_Clone_int64_int64.f l0).bind fun t485 => ((claw_Take.f kj2 l0 a1).bind fun bt488 => ((soukref11_Take.f kj2 l0 a1).bind fun bt492 => (if bt488.2 = bt492.2 then ((slices_Equal_int64_int64.f kj2 bt488.1 bt492.1).bind fun t496 => (if t496 = true then ((slices_Equal_int64_int64.f kj2 l0 t485).bind fun t497 => (souklaw13_ClawTakes.j1 kj2 l0 bt488.1 (!t497))) else (souklaw13_ClawTakes.j1 kj2 l0 bt488.1 true))) else (souklaw13_ClawTakes.j1 kj2 l0 bt488.1 true))))) = some r := by rw [if_neg (show ¬ (false = true) by decide)] at H; exact H
    clear H
    have H := H1
    clear H1
    replace H := Option.bind_eq_some_iff.mp H
    obtain ⟨t485, A110, H⟩ := H
    replace H : ((claw_Take.f kj2 l0 a1).bind fun bt488 => ((soukref11_Take.f kj2 l0 a1).bind fun bt492 => (if bt488.2 = bt492.2 then ((slices_Equal_int64_int64.f kj2 bt488.1 bt492.1).bind fun t496 => (if t496 = true then ((slices_Equal_int64_int64.f kj2 l0 t485).bind fun t497 => (souklaw13_ClawTakes.j1 kj2 l0 bt488.1 (!t497))) else (souklaw13_ClawTakes.j1 kj2 l0 bt488.1 true))) else (souklaw13_ClawTakes.j1 kj2 l0 bt488.1 true)))) = some r := H
    have A11 := Aside0.mk A110
    clear A110
    replace H := Option.bind_eq_some_iff.mp H
    obtain ⟨⟨t488, t489⟩, A120, H⟩ := H
    replace H : ((soukref11_Take.f kj2 l0 a1).bind fun bt492 => (if t489 = bt492.2 then ((slices_Equal_int64_int64.f kj2 t488 bt492.1).bind fun t496 => (if t496 = true then ((slices_Equal_int64_int64.f kj2 l0 t485).bind fun t497 => (souklaw13_ClawTakes.j1 kj2 l0 t488 (!t497))) else (souklaw13_ClawTakes.j1 kj2 l0 t488 true))) else (souklaw13_ClawTakes.j1 kj2 l0 t488 true))) = some r := H
    have A12 := Aside0.mk A120
    clear A120
    replace H := Option.bind_eq_some_iff.mp H
    obtain ⟨⟨t492, t493⟩, A130, H⟩ := H
    replace H : (if t489 = t493 then ((slices_Equal_int64_int64.f kj2 t488 t492).bind fun t496 => (if t496 = true then ((slices_Equal_int64_int64.f kj2 l0 t485).bind fun t497 => (souklaw13_ClawTakes.j1 kj2 l0 t488 (!t497))) else (souklaw13_ClawTakes.j1 kj2 l0 t488 true))) else (souklaw13_ClawTakes.j1 kj2 l0 t488 true)) = some r := H
    have A13 := Aside0.mk A130
    clear A130
    have HC14 := Aside0.mk H
    clear H
    go_upto_region 6 with (first | ((with_reducible refine gate_callee (f := 24) rfl ?_); refine goesL_ (some 21) rfl rfl Try.func24 (by kernel_rfl) rfl #[.slice A0 l0.length c0] rfl (by (try simp only [List.map_toArray, List.map_cons, List.map_nil]); first | done | rfl | (simp only [List.length_drop, List.length_take]; rfl)) ?_; (with_reducible refine (slices_Clone_int64_int64.calls _ _ l0 t485 _ ?side1 ?side2 A11.out).mono ?_); (case side1 => repeat (first | exact (Kd.C_below HR0.out HB.out) | (with_reducible refine Kd.C_alloc ?_ _) | (with_reducible refine Kd.C_drewN ?_ _) | (with_reducible refine Kd.C_drew ?_))); (case side2 => exact HC0.out); rintro e w15 ⟨v486, rfl, ho0, hb⟩; refine ⟨_, rfl, ?_⟩; have n0_ := Aside0.mk (Kd.R_lower ho0 (below_size (by repeat (first | (with_reducible first | exact HB.out | apply below_alloc | apply pw_below_drewN | apply below_drew1) | exact HB.out)))); have n1_ := Aside0.mk (below_step (by repeat (first | (with_reducible first | exact HB.out | apply below_alloc | apply pw_below_drewN | apply below_drew1) | exact HB.out)) hb); clear HB; have HO487 := n0_; have HB := n1_; clear n0_ n1_; (try clear hb); (try clear hb2); (try clear hk); (try clear hi); (try clear ho0)) | ((with_reducible refine gate_callee (f := 25) rfl ?_); refine goesL_ (some 25) rfl rfl Try.func25 (by kernel_rfl) rfl #[.slice A0 l0.length c0, .int .i64 a1] rfl (by (try simp only [List.map_toArray, List.map_cons, List.map_nil]); first | done | rfl | (simp only [List.length_drop, List.length_take]; rfl)) ?_; (with_reducible refine (claw_Take.calls kj2 _ _ l0 a1 t488 t489 _ ?side1 ?side2 A12.out).mono ?_); (case side1 => repeat (first | exact (Kd.C_below HR0.out HB.out) | (with_reducible refine Kd.C_alloc ?_ _) | (with_reducible refine Kd.C_drewN ?_ _) | (with_reducible refine Kd.C_drew ?_))); (case side2 => exact HC0.out); rintro e w16 ⟨v490, rfl, ho0, hb⟩; refine ⟨_, rfl, ?_⟩; have n0_ := Aside0.mk (Kd.R_elder' (by (with_reducible repeat (first | apply Kd.R_alloc | apply Kd.R_drewN | apply Kd.R_drew)); exact HO487.out) (Kd.R_base ho0) hb); have n1_ := Aside0.mk (Kd.R_lower (Kd.R_new' ho0 (Kd.R_lt (by (with_reducible repeat (first | apply Kd.R_alloc | apply Kd.R_drewN | apply Kd.R_drew)); exact HO487.out))) (below_size (by repeat (first | (with_reducible first | exact HB.out | apply below_alloc | apply pw_below_drewN | apply below_drew1) | exact HB.out)))); have n2_ := Aside0.mk (below_step (by repeat (first | (with_reducible first | exact HB.out | apply below_alloc | apply pw_below_drewN | apply below_drew1) | exact HB.out)) hb); clear HO487; clear HB; have HO487 := n0_; have HO491 := n1_; have HB := n2_; clear n0_ n1_ n2_; (try clear hb); (try clear hb2); (try clear hk); (try clear hi); (try clear ho0)) | ((with_reducible refine gate_callee (f := 26) rfl ?_); refine goesL_ (some 31) rfl rfl Try.func26 (by kernel_rfl) rfl #[.slice A0 l0.length c0, .int .i64 a1] rfl (by (try simp only [List.map_toArray, List.map_cons, List.map_nil]); first | done | rfl | (simp only [List.length_drop, List.length_take]; rfl)) ?_; (with_reducible refine (soukref11_Take.calls kj2 _ _ l0 a1 t492 t493 _ ?side1 ?side2 A13.out).mono ?_); (case side1 => repeat (first | exact (Kd.C_below HR0.out HB.out) | (with_reducible refine Kd.C_alloc ?_ _) | (with_reducible refine Kd.C_drewN ?_ _) | (with_reducible refine Kd.C_drew ?_))); (case side2 => exact HC0.out); rintro e w17 ⟨v494, rfl, ho0, hb⟩; refine ⟨_, rfl, ?_⟩; have n0_ := Aside0.mk (Kd.R_elder' (by (with_reducible repeat (first | apply Kd.R_alloc | apply Kd.R_drewN | apply Kd.R_drew)); exact HO487.out) (Kd.R_base ho0) hb); have n1_ := Aside0.mk (Kd.R_elder' (by (with_reducible repeat (first | apply Kd.R_alloc | apply Kd.R_drewN | apply Kd.R_drew)); exact HO491.out) (Kd.R_base ho0) hb); have n2_ := Aside0.mk (Kd.R_lower (Kd.R_new' (Kd.R_new' ho0 (Kd.R_lt (by (with_reducible repeat (first | apply Kd.R_alloc | apply Kd.R_drewN | apply Kd.R_drew)); exact HO487.out))) (Kd.R_lt (by (with_reducible repeat (first | apply Kd.R_alloc | apply Kd.R_drewN | apply Kd.R_drew)); exact HO491.out))) (below_size (by repeat (first | (with_reducible first | exact HB.out | apply below_alloc | apply pw_below_drewN | apply below_drew1) | exact HB.out)))); have n3_ := Aside0.mk (below_step (by repeat (first | (with_reducible first | exact HB.out | apply below_alloc | apply pw_below_drewN | apply below_drew1) | exact HB.out)) hb); clear HO487; clear HO491; clear HB; have HO487 := n0_; have HO491 := n1_; have HO495 := n2_; have HB := n3_; clear n0_ n1_ n2_ n3_; (try clear hb); (try clear hb2); (try clear hk); (try clear hi); (try clear ho0)))
    (try simp only [Act.put, List.setIfInBounds_toArray, List.set_cons_zero, List.set_cons_succ])
    go_cut [48] (fun v48 wc => ∃ (kq : Nat) (x48_13 : Bool), v48 = .bool x48_13 ∧ Aside0 (souklaw13_ClawTakes.j1 kq l0 t488 x48_13 = some r) ∧ Aside0 (kq ≤ kj2) ∧ Aside0 (Kd.R (Kd.int .i64) 2 wc w.heap.size (fun _ => True) v490 t488) ∧ Aside0 (Below w.heap.size w wc))
    case first =>
     have H := HC14.out
     clear HC14
     by_cases c18 : t489 = t493
     ·rw [if_pos c18] at H
      have c18b0 : (t489 == t493) = true := beq_iff_eq.mpr c18
      have c18b1 : (t489 != t493) = false := bne_eq_false_iff_eq.mpr c18
      clear c18
      (first | rw [c18b0] | (simp only [i64_w, i32_w]; rw [c18b0]) | skip)
      replace H := Option.bind_eq_some_iff.mp H
      obtain ⟨t496, A190, H⟩ := H
      replace H : (if t496 = true then ((slices_Equal_int64_int64.f kj2 l0 t485).bind fun t497 => (souklaw13_ClawTakes.j1 kj2 l0 t488 (!t497))) else (souklaw13_ClawTakes.j1 kj2 l0 t488 true)) = some r := H
      have A19 := Aside0.mk A190
      clear A190
      by_cases c20 : t496 = true
      ·subst c20
       have H1 : ((slices_Equal_int64_int64.f kj2 l0 t485).bind fun t497 => (souklaw13_ClawTakes.j1 kj2 l0 t488 (!t497))) = some r := by rw [if_pos rfl] at H; exact H
       clear H
       have H := H1
       clear H1
       replace H := Option.bind_eq_some_iff.mp H
       obtain ⟨t497, A210, H⟩ := H
       replace H : (souklaw13_ClawTakes.j1 kj2 l0 t488 (!t497)) = some r := H
       have A21 := Aside0.mk A210
       clear A210
       have H' := Aside0.mk H
       clear H
       obtain ⟨Ao22, co22, eo22⟩ := Kd.R_slice HO491.out
       subst eo22
       obtain ⟨Ao23, co23, eo23⟩ := Kd.R_slice HO495.out
       subst eo23
       go_wp2_with (first | (go_at_call 22; (with_reducible refine (slices_Equal_int64_int64.calls kj2 _ _ t488 _ _ t492 true _ ?side1 ?side2 ?side3 ?side4 A19.out).mono ?_); (case side1 => repeat (first | exact (Kd.R_reads' HO491.out).2.2 | (with_reducible refine Kd.C_alloc ?_ _) | (with_reducible refine Kd.C_drewN ?_ _) | (with_reducible refine Kd.C_drew ?_))); (case side2 => exact (Kd.R_reads' HO491.out).2.1); (case side3 => repeat (first | exact (Kd.R_reads' HO495.out).2.2 | (with_reducible refine Kd.C_alloc ?_ _) | (with_reducible refine Kd.C_drewN ?_ _) | (with_reducible refine Kd.C_drew ?_))); (case side4 => exact (Kd.R_reads' HO495.out).2.1); rintro e w' ⟨rfl, ⟨nd, rfl⟩⟩; obtain ⟨Ao24, co24, eo24⟩ := Kd.R_slice HO487.out; subst eo24) | (go_at_call 22; (with_reducible refine (slices_Equal_int64_int64.calls kj2 _ _ l0 _ _ t485 t497 _ ?side1 ?side2 ?side3 ?side4 A21.out).mono ?_); (case side1 => repeat (first | exact (Kd.C_below HR0.out (by repeat (first | (with_reducible first | exact HB.out | apply below_alloc | apply pw_below_drewN | apply below_drew1) | exact HB.out))) | (with_reducible refine Kd.C_alloc ?_ _) | (with_reducible refine Kd.C_drewN ?_ _) | (with_reducible refine Kd.C_drew ?_))); (case side2 => exact HC0.out); (case side3 => repeat (first | exact (Kd.R_reads' HO487.out).2.2 | (with_reducible refine Kd.C_alloc ?_ _) | (with_reducible refine Kd.C_drewN ?_ _) | (with_reducible refine Kd.C_drew ?_))); (case side4 => exact (Kd.R_reads' HO487.out).2.1); rintro e w' ⟨rfl, ⟨nd, rfl⟩⟩))
       go_meet
       case rel => exact ⟨_, (!t497), (by first | rfl | (simp; done) | (simp [*]; done)), H', ⟨by have := HJ2.out; first | omega | exact Nat.le_refl _⟩, ⟨by (with_reducible repeat (first | apply Kd.R_alloc | apply Kd.R_drewN | apply Kd.R_drew)); exact Kd.R_mono HO491.out (fun _ hk => trivial)⟩, ⟨by repeat (first | (with_reducible first | exact HB.out | apply below_alloc | apply pw_below_drewN | apply below_drew1) | exact HB.out)⟩⟩
      ·replace c20 := Bool.eq_false_iff.mpr c20
       subst c20
       have H1 : (souklaw13_ClawTakes.j1 kj2 l0 t488 true) = some r := by rw [if_neg (show ¬ (false = true) by decide)] at H; exact H
       clear H
       have H := H1
       clear H1
       have H' := Aside0.mk H
       clear H
       obtain ⟨Ao25, co25, eo25⟩ := Kd.R_slice HO491.out
       subst eo25
       obtain ⟨Ao26, co26, eo26⟩ := Kd.R_slice HO495.out
       subst eo26
       go_wp2_with (first | (go_at_call 22; (with_reducible refine (slices_Equal_int64_int64.calls kj2 _ _ t488 _ _ t492 false _ ?side1 ?side2 ?side3 ?side4 A19.out).mono ?_); (case side1 => repeat (first | exact (Kd.R_reads' HO491.out).2.2 | (with_reducible refine Kd.C_alloc ?_ _) | (with_reducible refine Kd.C_drewN ?_ _) | (with_reducible refine Kd.C_drew ?_))); (case side2 => exact (Kd.R_reads' HO491.out).2.1); (case side3 => repeat (first | exact (Kd.R_reads' HO495.out).2.2 | (with_reducible refine Kd.C_alloc ?_ _) | (with_reducible refine Kd.C_drewN ?_ _) | (with_reducible refine Kd.C_drew ?_))); (case side4 => exact (Kd.R_reads' HO495.out).2.1); rintro e w' ⟨rfl, ⟨nd, rfl⟩⟩))
       go_meet
       case rel => exact ⟨_, (true), (by first | rfl | (simp; done) | (simp [*]; done)), H', ⟨by have := HJ2.out; first | omega | exact Nat.le_refl _⟩, ⟨by (with_reducible repeat (first | apply Kd.R_alloc | apply Kd.R_drewN | apply Kd.R_drew)); exact Kd.R_mono HO491.out (fun _ hk => trivial)⟩, ⟨by repeat (first | (with_reducible first | exact HB.out | apply below_alloc | apply pw_below_drewN | apply below_drew1) | exact HB.out)⟩⟩
     ·rw [if_neg c18] at H
      have c18b0 : (t489 == t493) = false := beq_eq_false_iff_ne.mpr c18
      have c18b1 : (t489 != t493) = true := bne_iff_ne.mpr c18
      (first | rw [c18b0] | (simp only [i64_w, i32_w]; rw [c18b0]) | skip)
      have H' := Aside0.mk H
      clear H
      go_wp2
      go_meet
      case rel => exact ⟨_, (true), (by first | rfl | (simp; done) | (simp [*]; done)), H', ⟨by have := HJ2.out; first | omega | exact Nat.le_refl _⟩, ⟨by (with_reducible repeat (first | apply Kd.R_alloc | apply Kd.R_drewN | apply Kd.R_drew)); exact Kd.R_mono HO491.out (fun _ hk => trivial)⟩, ⟨by repeat (first | (with_reducible first | exact HB.out | apply below_alloc | apply pw_below_drewN | apply below_drew1) | exact HB.out)⟩⟩
    case rest =>
     clear HC14
     try clear c1
     try clear c2
     try clear p2
     try clear c5
     try clear c6
     try clear c8
     try clear c18
     try clear c18b0
     try clear c18b1
     try clear c20
     try clear c23
     try clear c24
     try clear c25
     try clear c26
     try clear p2
     obtain ⟨kq, x48_13, rfl, HA, HJ13, HO_6, HB⟩ := hcut
     cases kq with
     | zero => exact absurd HA.out (by simp [souklaw13_ClawTakes.j1])
     | succ kj13 =>
      have H := HA.out
      clear HA
      simp only [souklaw13_ClawTakes.j1] at H
      by_cases c27 : x48_13 = true
      ·subst c27
       have H1 : (some false) = some r := by rw [if_pos rfl] at H; exact H
       clear H
       have H := H1
       clear H1
       obtain rfl := Option.some.inj H
       go_wp2
       go_ret
       exact ⟨by first | rfl | (simp [errW_none, errW_some] <;> rfl) | (simp [*, errW_none, errW_some] <;> rfl), by repeat (first | (with_reducible first | exact HB.out | apply below_alloc | apply pw_below_drewN | apply below_drew1) | exact HB.out)⟩
      ·replace c27 := Bool.eq_false_iff.mpr c27
       subst c27
       have H1 : (souklaw13_ClawTakes.l0 kj13 l0 t488 (t488.length : Int) 0) = some r := by rw [if_neg (show ¬ (false = true) by decide)] at H; exact H
       clear H
       have H := H1
       clear H1
       have H' := Aside0.mk H
       clear H
       obtain ⟨Ao28, co28, eo28⟩ := Kd.R_slice HO_6.out
       subst eo28
       go_wp2
       go_loopg [51] kj13 (fun kq v51 w' => ∃ (x51_3 : Int), v51 = .int .i64 x51_3 ∧ Aside0 (souklaw13_ClawTakes.l0 kq l0 t488 (t488.length : Int) x51_3 = some r) ∧ Aside0 (kq ≤ kj13) ∧ Aside0 (Kd.R (Kd.int .i64) 2 w' w.heap.size (fun _ => True) (.slice Ao28 t488.length co28) t488) ∧ Aside0 (Below w.heap.size w w'))
       case atStart => exact ⟨(0), (by first | rfl | (simp; done) | (simp [*]; done)), H', ⟨Nat.le_refl _⟩, ⟨by (with_reducible repeat (first | apply Kd.R_alloc | apply Kd.R_drewN | apply Kd.R_drew)); exact HO_6.out⟩, ⟨by repeat (first | (with_reducible first | exact HB.out | apply below_alloc | apply pw_below_drewN | apply below_drew1) | exact HB.out)⟩⟩
       case round =>
        clear H'
        try clear c1
        try clear c2
        try clear p2
        try clear c5
        try clear c6
        try clear c8
        try clear c18
        try clear c18b0
        try clear c18b1
        try clear c20
        try clear c23
        try clear c24
        try clear c25
        try clear c26
        try clear c27
        try clear p2
        obtain ⟨x51_3, rfl, HA, HK3, HO_49, HB⟩ := hrel
        cases gk with
        | zero => exact absurd HA.out (by simp [souklaw13_ClawTakes.l0])
        | succ k3 =>
         have H := HA.out
         clear HA
         simp only [souklaw13_ClawTakes.l0] at H
         by_cases c29 : x51_3 < (t488.length : Int)
         ·rw [if_pos c29] at H
          have c29b0 : decide (x51_3 < (t488.length : Int)) = true := decide_eq_true c29
          clear c29
          by_cases c30 : 0 ≤ x51_3
          ·rw [if_pos c30] at H
           have c30b0 : decide (0 ≤ x51_3) = true := decide_eq_true c30
           clear c30
           by_cases c31 : x51_3 < (t488.length : Int)
           ·rw [if_pos c31] at H
            have c31b0 : decide (x51_3 < (t488.length : Int)) = true := decide_eq_true c31
            clear c31
            by_cases c32 : (rd t488 x51_3) < 0
            ·rw [if_pos c32] at H
             have c32b0 : decide ((rd t488 x51_3) < 0) = true := decide_eq_true c32
             clear c32
             obtain rfl := Option.some.inj H
             have p498 : 0 ≤ (x51_3 : Int) := of_decide_eq_true (by first | (with_reducible assumption) | assumption)
             have q498 : x51_3 < (t488.length : Int) := of_decide_eq_true (by first | (with_reducible assumption) | assumption)
             obtain ⟨ad498, e498, hx498_0⟩ := Kd.at_int (Kd.R_reads' HO_49.out).2.2 x51_3 p498 q498
             cases e498
             replace p498 := eq_true p498
             replace q498 := eq_true q498
             go_wp2
             go_ret
             exact ⟨by first | rfl | (simp [errW_none, errW_some] <;> rfl) | (simp [*, errW_none, errW_some] <;> rfl), by repeat (first | (with_reducible first | exact HB.out | apply below_alloc | apply pw_below_drewN | apply below_drew1) | exact HB.out)⟩
            ·rw [if_neg c32] at H
             have c32b0 : decide ((rd t488 x51_3) < 0) = false := decide_eq_false c32
             clear c32
             by_cases c33 : x51_3 < (l0.length : Int)
             ·rw [if_pos c33] at H
              have c33b0 : decide (x51_3 < (l0.length : Int)) = true := decide_eq_true c33
              clear c33
              by_cases c34 : (rd t488 x51_3) > (rd l0 x51_3)
              ·rw [if_pos c34] at H
               have c34b0 : decide ((rd l0 x51_3) < (rd t488 x51_3)) = true := decide_eq_true c34
               clear c34
               obtain rfl := Option.some.inj H
               have p498 : 0 ≤ (x51_3 : Int) := of_decide_eq_true (by first | (with_reducible assumption) | assumption)
               have q498 : x51_3 < (t488.length : Int) := of_decide_eq_true (by first | (with_reducible assumption) | assumption)
               obtain ⟨ad498, e498, hx498_0⟩ := Kd.at_int (Kd.R_reads' HO_49.out).2.2 x51_3 p498 q498
               cases e498
               replace p498 := eq_true p498
               replace q498 := eq_true q498
               have p499 : 0 ≤ (x51_3 : Int) := of_decide_eq_true (by first | (with_reducible assumption) | assumption)
               have q499 : x51_3 < (l0.length : Int) := of_decide_eq_true (by first | (with_reducible assumption) | assumption)
               obtain ⟨ad499, e499, hx499_0⟩ := Kd.at_int HR0.out x51_3 p499 q499
               cases e499
               replace hx499_0 := (HB.out.cell (World.block_lt_of_cell? w _ hx499_0)).trans hx499_0
               replace p499 := eq_true p499
               replace q499 := eq_true q499
               go_wp2
               go_ret
               exact ⟨by first | rfl | (simp [errW_none, errW_some] <;> rfl) | (simp [*, errW_none, errW_some] <;> rfl), by repeat (first | (with_reducible first | exact HB.out | apply below_alloc | apply pw_below_drewN | apply below_drew1) | exact HB.out)⟩
              ·rw [if_neg c34] at H
               have c34b0 : decide ((rd l0 x51_3) < (rd t488 x51_3)) = false := decide_eq_false c34
               clear c34
               have H' := Aside0.mk H
               clear H
               have p498 : 0 ≤ (x51_3 : Int) := of_decide_eq_true (by first | (with_reducible assumption) | assumption)
               have q498 : x51_3 < (t488.length : Int) := of_decide_eq_true (by first | (with_reducible assumption) | assumption)
               obtain ⟨ad498, e498, hx498_0⟩ := Kd.at_int (Kd.R_reads' HO_49.out).2.2 x51_3 p498 q498
               cases e498
               replace p498 := eq_true p498
               replace q498 := eq_true q498
               have p499 : 0 ≤ (x51_3 : Int) := of_decide_eq_true (by first | (with_reducible assumption) | assumption)
               have q499 : x51_3 < (l0.length : Int) := of_decide_eq_true (by first | (with_reducible assumption) | assumption)
               obtain ⟨ad499, e499, hx499_0⟩ := Kd.at_int HR0.out x51_3 p499 q499
               cases e499
               replace hx499_0 := (HB.out.cell (World.block_lt_of_cell? w _ hx499_0)).trans hx499_0
               replace p499 := eq_true p499
               replace q499 := eq_true q499
               go_wp2
               go_roundg k3
               case measure => have := HJ2.out; have := HJ13.out; have := HK3.out; omega
               case rel => exact ⟨(wrap64 (x51_3 + 1)), (by first | rfl | (simp; done) | (simp [*]; done)), H', ⟨by have := HJ2.out; have := HJ13.out; have := HK3.out; omega⟩, ⟨by (with_reducible repeat (first | apply Kd.R_alloc | apply Kd.R_drewN | apply Kd.R_drew)); exact HO_49.out⟩, ⟨by repeat (first | (with_reducible first | exact HB.out | apply below_alloc | apply pw_below_drewN | apply below_drew1) | exact HB.out)⟩⟩
             ·rw [if_neg c33] at H
              exact absurd H (by simp)
           ·rw [if_neg c31] at H
            exact absurd H (by simp)
          ·rw [if_neg c30] at H
           exact absurd H (by simp)
         ·rw [if_neg c29] at H
          have c29b0 : decide (x51_3 < (t488.length : Int)) = false := decide_eq_false c29
          clear c29
          obtain rfl := Option.some.inj H
          go_wp2
          go_ret
          exact ⟨by first | rfl | (simp [errW_none, errW_some] <;> rfl) | (simp [*, errW_none, errW_some] <;> rfl), by repeat (first | (with_reducible first | exact HB.out | apply below_alloc | apply pw_below_drewN | apply below_drew1) | exact HB.out)⟩
def souklaw13_ClawTakes.Pure : Prop := ∀ (l0 : List Int) (a1 : Int), l0.length ≤ maxLen → l0.length * 8 ≤ 140737488351232 → (∀ x ∈ l0, (Lit.int .i64 x).wf = true) → (Lit.int .i64 a1).wf = true → ∃ k, souklaw13_ClawTakes.f k l0 a1 = some true
theorem souklaw13_ClawTakes.walk (P : souklaw13_ClawTakes.Pure) (a0 : Option Addr) (len0 cap0 : Nat) (z0 : List Int) (a1 : Int) (w : World) (w0 : (a0 = none ∧ len0 = 0 ∧ cap0 = 0 ∧ z0 = []) ∨ ∃ x, a0 = some x ∧ len0 ≤ cap0 ∧ cap0 ≤ maxLen ∧ z0.length = cap0 ∧ (∀ i, i < z0.length → w.cell? (x.add i) = some (.int .i64 (z0.getD i 0))) ∧ ∀ n ∈ z0, (Lit.int .i64 n).wf = true) (y0 : len0 * 8 ≤ 140737488351232) (w1 : (Lit.int .i64 a1).wf = true) :
  Calls Try.prog 6 #[.slice a0 len0 cap0, .int .i64 a1] w fun e w' => e = .returned (.bool true) ∧ Below w.heap.size w w' := by
 obtain ⟨l0, rfl, hr0, hm0, hw0, hc0⟩ := ReadsInt.ofRowC w0
 obtain ⟨k, h⟩ := P l0 a1 hm0 y0 hw0 w1
 refine (souklaw13_ClawTakes.calls k _ _ l0 a1 true w (Kd.C_of_reads (d := (0 : Int)) (h1 := fun _ => rfl) hr0) hc0 h).mono ?_
 rintro e w' ⟨rfl, hd⟩
 exact ⟨rfl, hd⟩
end Go.Proofs.Ytncnhhnbjmpomaa.Q
namespace Go.Proofs.Mm
open Go.RowKit Go.MapKept
set_option linter.unusedSimpArgs false
set_option linter.unusedVariables false
set_option linter.unusedSectionVars false
instance decBytes : DecidableEq ByteArray := fun a b => if h : a.data = b.data then isTrue (by cases a; cases b; simp_all) else isFalse (fun e => h (by rw [e]))
instance memBytes (a : ByteArray) : (l : List ByteArray) → Decidable (a ∈ l)
  | [] => isFalse (by simp)
  | b :: l => if h : a = b then isTrue (by simp [h]) else match memBytes a l with
    | isTrue h2 => isTrue (by simp [h2])
    | isFalse h2 => isFalse (by simp [h, h2])
section
variable {α : Type} [DecidableEq α] {P : Program} {kt : TypeId} {ek : α → Value}
def put (a : α) (v : Value) (c : Nat) : List (α × Value × Nat) → List (α × Value × Nat)
  | [] => [(a, v, c)]
  | x :: l => if x.1 = a then (a, v, x.2.2) :: l else x :: put a v c l
end
end Go.Proofs.Mm
namespace Go.Proofs.Ytncnhhnbjmpomaa.Q
open Go.RowKit Go.Proofs.YtncnhhnbjmpomaaW.PrintWords Go.Proofs.YtncnhhnbjmpomaaW.PrintLast Go.Proofs.YtncnhhnbjmpomaaW.PrintMore
set_option linter.unusedVariables false
set_option linter.unusedSimpArgs false
def upB (neg : Bool) (m : Int) (q r c : Nat) : Bool :=
  !decide (r = 0) && ((decide (m = 0) && neg) || (decide (m = 1) && !neg) || (decide (m = 2) && (decide (c < 2 * r) || (!decide (2 * r < c) && decide (q % 2 = 1)))))
def negB (a b : Int) : Bool := decide (a < 0) != decide (b < 0)
def mdV (a b : Int) (c : Nat) (m : Int) : Nat := a.natAbs * b.natAbs / c + bv (upB (negB a b) m (a.natAbs * b.natAbs / c) (a.natAbs * b.natAbs % c) c)
def mdF (a b : Int) (c : Nat) (m : Int) : Int × Bool := valF (mdV a b c m) (negB a b)
end Go.Proofs.Ytncnhhnbjmpomaa.Q
namespace Go.Proofs.Ytncnhhnbjmpomaa.Q
open Go.RowKit Go.Proofs.YtncnhhnbjmpomaaW.PrintWords Go.Proofs.Ytncnhhnbjmpomaa
set_option linter.unusedVariables false
set_option linter.unusedSimpArgs false
theorem rdI (l : List Int) (i : Nat) (h : i < l.length) : rd l (i : Int) = l[i] := by simp [rd, List.getD_eq_getElem?_getD, h]
def hv (hold n : Int) : Int := (mdF n hold 10000 0).1
end Go.Proofs.Ytncnhhnbjmpomaa.Q
namespace Go.Proofs.Ytncnhhnbjmpomaa.Q
open Go.RowKit Go.Proofs.YtncnhhnbjmpomaaW.PrintWords Go.Proofs.Ytncnhhnbjmpomaa Go.Sort
set_option linter.unusedVariables false
set_option linter.unusedSimpArgs false
theorem parts_facts (t : Int) (ws : List Int) (ht : 0 ≤ t) (hw : ∀ x ∈ ws, 0 ≤ x) (ha : 0 < ws.sum) : (∀ x ∈ partsF t ws, 0 ≤ x) ∧ (partsF t ws).sum = t ∧ (partsF t ws).length = ws.length := by
  have hlb := left_bd t ws ht hw ha
  have hm := mem_le_sum ws hw
  have hq0 : ∀ x ∈ quosF t ws.sum ws, 0 ≤ x := by
    intro x hx
    obtain ⟨y, hy, rfl⟩ := List.mem_map.1 hx
    exact (quo_bd ht (hw y hy) (hm y hy) ha).1
  have hp := srt_perm (restsF t ws.sum 0 ws).toArray
  have hl : (srt (restsF t ws.sum 0 ws).toArray).toList.length = ws.length := by rw [hp.1.length_eq]; simp [restsF_len]
  have hb := bump_facts ((srt (restsF t ws.sum 0 ws).toArray).toList.take (leftF t ws.sum ws).toNat) (quosF t ws.sum ws) hq0 (fun r hr => by
    have h := rests_idx t ws.sum ws 0 r (hp.1.mem_iff.1 (List.mem_of_mem_take hr))
    rw [quosF_len]; omega)
  refine ⟨hb.1, ?_, ?_⟩
  · show (bump _ _).sum = t
    rw [hb.2, List.length_take, hl, Nat.min_eq_left hlb.2]
    have : leftF t ws.sum ws = t - (quosF t ws.sum ws).sum := rfl
    omega
  · show (bump _ _).length = _
    rw [bump_len, quosF_len]
theorem sum_le_mul : ∀ (l : List Int) (m : Int), (∀ x ∈ l, x ≤ m) → l.sum ≤ l.length * m
  | [], m, _ => by simp
  | x :: l, m, h => by
    have h1 := sum_le_mul l m (fun y hy => h y (by simp [hy]))
    have h2 := h x (by simp)
    simp only [List.sum_cons, List.length_cons, Int.natCast_add, Int.natCast_one, Int.add_mul, Int.one_mul]
    omega
theorem inRb_of {x : Int} (h : inR x) : inRb x = true := (inRb_iff x).2 h
end Go.Proofs.Ytncnhhnbjmpomaa.Q
namespace Go.Proofs.Ytncnhhnbjmpomaa.Q
open Go.RowKit Go.Proofs.YtncnhhnbjmpomaaW.PrintWords Go.Proofs.Ytncnhhnbjmpomaa Go.Sort
set_option linter.unusedVariables false
set_option linter.unusedSimpArgs false
def takeF (xs : List Int) (a : Int) : List Int × Int :=
  if a ≤ 0 then ([], 1) else if xs.any (fun n => decide (n < 0)) = true then ([], 1) else if ¬ xs.sum ≤ 9223372036854775807 then ([], 2) else if xs.sum < a then ([], 10) else (partsF a xs, 0)
theorem take_ok (xs : List Int) (a : Int) (hx : ∀ x ∈ xs, inR x) (ha : inR a) (hl : xs.length ≤ 40) : EvT (fun k => claw_Take.f k xs a) (takeF xs a) := by
  unfold takeF claw_Take.f
  by_cases h1 : a ≤ 0
  · rw [if_pos h1]
    exact EvT.congr (fun k => if_pos h1) (EvT.done fun k => by simp only [claw_Take.j0]; rw [if_pos trivial])
  rw [if_neg h1]
  refine EvT.congr (fun k => if_neg h1) ?_
  have hc : slices_ContainsFunc_int64_int64.f xs 54 = some (xs.any fun n => decide (n < 0)) := by
    unfold slices_ContainsFunc_int64_int64.f; rw [if_pos ⟨.inr (.inl rfl), by omega⟩]
  rw [hc]
  simp only [Option.bind_some]
  by_cases h2 : (xs.any fun n => decide (n < 0)) = true
  · rw [if_pos h2, h2]
    exact EvT.done fun k => by simp only [claw_Take.j0]; rw [if_pos trivial]
  rw [if_neg h2, eq_false_of_ne_true h2]
  have hnn := any_false xs (eq_false_of_ne_true h2)
  have had := addF_nn xs 0 (Int.le_refl _) hnn (by decide)
  rw [Int.zero_add] at had
  have hadd : EvT (fun k => money_Add.f k xs) (addF 0 xs) := EvT.of_add (add_ok xs hx (by omega))
  refine EvT.step (g := fun k => (money_Add.f k xs).bind fun bt425 => if bt425.2 = 0 then (if a > bt425.1 then some (([] : List Int), (10 : Int)) else (money_Split.f a xs).bind fun bt427 => some (bt427.1, bt427.2)) else some (([] : List Int), bt425.2)) (fun k => by simp only [claw_Take.j0]; rw [if_neg (by decide)]) ?_
  refine EvT.bind (F := fun k (bt425 : Int × Int) => if bt425.2 = 0 then (if a > bt425.1 then some (([] : List Int), (10 : Int)) else (money_Split.f a xs).bind fun bt427 => some (bt427.1, bt427.2)) else some (([] : List Int), bt425.2)) hadd ?_
  by_cases h3 : xs.sum ≤ 9223372036854775807
  · rw [if_pos h3] at had
    rw [if_neg (show ¬ ¬ xs.sum ≤ 9223372036854775807 from fun h => h h3), had]
    by_cases h4 : xs.sum < a
    · rw [if_pos h4]
      exact EvT.congr (fun k => by simp [h4]) (EvT.const _)
    · rw [if_neg h4]
      have hs : money_Split.f a xs = some (partsF a xs, 0) := by
        unfold money_Split.f
        rw [if_pos ⟨by omega, List.all_eq_true.2 fun x h => inRb_of (hx x h), inRb_of ha⟩]
        unfold splitF
        rw [if_neg (by omega), if_neg h2, if_neg (by omega), if_neg (by omega)]
      exact EvT.congr (fun k => by simp [h4, hs]) (EvT.const _)
  · rw [if_neg h3] at had
    rw [if_pos h3, had]
    exact EvT.congr (fun k => if_neg (show ¬ (2 : Int) = 0 by decide)) (EvT.const _)
theorem rtake_from (xs : List Int) (a : Int) (hx : ∀ x ∈ xs, inR x) (ha : inR a) (hl : xs.length ≤ 1000) : ∀ (d i : Nat), xs.length - i = d → i ≤ xs.length → (∀ j (h : j < xs.length), j < i → 0 ≤ xs[j]) → EvT (fun k => soukref11_Take.l0 k xs a i) (takeF xs a)
  | 0, i, hd, hi, hn => by
    have hnn : ∀ x ∈ xs, 0 ≤ x := by
      intro x hx
      obtain ⟨j, hj, rfl⟩ := List.getElem_of_mem hx
      exact hn j hj (by omega)
    have hany : (xs.any fun n => decide (n < 0)) = false := by
      rw [List.any_eq_false]; intro x hx; have := hnn x hx; simp; omega
    unfold takeF
    rw [hany]
    by_cases h1 : a ≤ 0
    · rw [if_pos h1]
      exact EvT.done fun k => by simp only [soukref11_Take.l0]; rw [if_neg (by omega), if_pos h1]
    rw [if_neg h1, if_neg (by decide)]
    have had := addF_nn xs 0 (Int.le_refl _) hnn (by decide)
    rw [Int.zero_add] at had
    have hadd : EvT (fun k => soukref01_Sum.f k xs) (sumR (addF 0 xs)) := EvT.of_add (rsum_ok xs hx (by omega))
    refine EvT.step (g := fun k => (soukref01_Sum.f k xs).bind fun bt443 => if bt443.2 = true then (if a > bt443.1 then some (([] : List Int), (10 : Int)) else (soukref01_Split.f a xs).bind fun bt445 => some (bt445.1, bt445.2)) else some (([] : List Int), 2)) (fun k => by simp only [soukref11_Take.l0]; rw [if_neg (by omega), if_neg h1]) ?_
    refine EvT.bind (F := fun k (bt443 : Int × Bool) => if bt443.2 = true then (if a > bt443.1 then some (([] : List Int), (10 : Int)) else (soukref01_Split.f a xs).bind fun bt445 => some (bt445.1, bt445.2)) else some (([] : List Int), 2)) hadd ?_
    by_cases h3 : xs.sum ≤ 9223372036854775807
    · rw [if_pos h3] at had
      have e : sumR (addF 0 xs) = (xs.sum, true) := by rw [had]; rfl
      rw [if_neg (show ¬ ¬ xs.sum ≤ 9223372036854775807 from fun h => h h3), e]
      by_cases h4 : xs.sum < a
      · rw [if_pos h4]
        exact EvT.congr (fun k => by simp [h4]) (EvT.const _)
      · rw [if_neg h4]
        have hs : soukref01_Split.f a xs = some (partsF a xs, 0) := by
          unfold soukref01_Split.f
          rw [if_pos ⟨by omega, List.all_eq_true.2 fun x h => inRb_of (hx x h), inRb_of ha⟩]
          unfold splitF
          rw [if_neg (by omega), hany, if_neg (by decide), if_neg (by omega), if_neg (by omega)]
        exact EvT.congr (fun k => by simp [h4, hs]) (EvT.const _)
    · rw [if_neg h3] at had
      have e : sumR (addF 0 xs) = (0, false) := by rw [had]; rfl
      rw [if_pos h3, e]
      exact EvT.congr (fun k => if_neg (by decide)) (EvT.const _)
  | d + 1, i, hd, hi, hn => by
    have hlt : i < xs.length := by omega
    by_cases h0 : xs[i] < 0
    · have hany : (xs.any fun n => decide (n < 0)) = true := List.any_eq_true.2 ⟨xs[i], List.getElem_mem _, by simpa using h0⟩
      have e : takeF xs a = ([], 1) := by
        unfold takeF
        rw [hany]
        split
        · rfl
        · rfl
      rw [e]
      exact EvT.done fun k => by simp only [soukref11_Take.l0]; rw [if_pos (by omega), if_pos (by omega), rdI _ _ hlt, if_pos h0]
    · refine EvT.step (fun k => ?_) (rtake_from xs a hx ha hl d (i + 1) (by omega) (by omega) (fun j hj hji => ?_))
      · simp only [soukref11_Take.l0]
        rw [if_pos (by omega), if_pos (by omega), rdI _ _ hlt, if_neg h0, nx i (by omega)]
      · by_cases e : j < i
        · exact hn j hj e
        · obtain rfl : j = i := by omega
          omega
theorem rtake_ok (xs : List Int) (a : Int) (hx : ∀ x ∈ xs, inR x) (ha : inR a) (hl : xs.length ≤ 1000) : EvT (fun k => soukref11_Take.f k xs a) (takeF xs a) :=
  rtake_from xs a hx ha hl xs.length 0 (by omega) (by omega) (fun _ _ h => absurd h (by omega))
theorem sum_pre (M : Int) (hM : 0 ≤ M) : ∀ (l : List S98), (∀ r ∈ l, 0 ≤ r.f1 ∧ r.f1 ≤ M) → 0 ≤ (l.map fun r => r.f1).sum ∧ (l.map fun r => r.f1).sum ≤ l.length * M
  | [], _ => by simp
  | r :: l, h => by
    have h1 := sum_pre M hM l (fun q hq => h q (by simp [hq]))
    have h2 := h r (by simp)
    simp only [List.map_cons, List.sum_cons, List.length_cons, Int.natCast_add, Int.natCast_one, Int.add_mul, Int.one_mul]
    omega
theorem sum_zero : ∀ (l : List S98), (∀ r ∈ l, r.f1 = 0) → (l.map fun r => r.f1).sum = 0
  | [], _ => rfl
  | r :: l, h => by
    simp only [List.map_cons, List.sum_cons, h r (by simp), sum_zero l (fun q hq => h q (by simp [hq]))]; rfl
theorem perm_sum : ∀ {l m : List Int}, l.Perm m → l.sum = m.sum := by
  intro l m h
  induction h with
  | nil => rfl
  | cons x _ ih => simp [ih]
  | swap x y l => simp; omega
  | trans _ _ h1 h2 => exact h1.trans h2
theorem rests_rng (t all : Int) (ha : 0 < all) : ∀ (l : List Int) (i : Nat), ∀ r ∈ restsF t all i l, 0 ≤ r.f1 ∧ r.f1 ≤ all - 1
  | [], _, _, h => by cases h
  | w :: l, i, r, h => by
    rcases List.mem_cons.1 h with rfl | h
    · have h1 := Int.emod_nonneg (t * w) (b := all) (by omega)
      have h2 := Int.emod_lt_of_pos (t * w) ha
      show 0 ≤ t * w % all ∧ t * w % all ≤ all - 1
      omega
    · exact rests_rng t all ha l (i + 1) r h
theorem picks_pos (t : Int) (ws : List Int) (ht : 0 ≤ t) (hw : ∀ x ∈ ws, 0 ≤ x) (ha : 0 < ws.sum) : ∀ r ∈ (ordF t ws).take (leftF t ws.sum ws).toNat, 0 < r.f1 := by
  have hlb := left_bd t ws ht hw ha
  have hp := ord_perm t ws
  have hs := ord_sorted t ws
  have hl := ord_len t ws
  have hrng : ∀ r ∈ ordF t ws, 0 ≤ r.f1 ∧ r.f1 ≤ ws.sum - 1 := fun r hr => rests_rng t ws.sum ha ws 0 r (hp.mem_iff.1 hr)
  have hsum : ((ordF t ws).map fun r => r.f1).sum = ws.sum * leftF t ws.sum ws := by
    rw [perm_sum (hp.map _)]
    have := quos_sum t ws.sum ha ws
    show _ = ws.sum * (t - (quosF t ws.sum ws).sum)
    rw [Int.mul_sub, Int.mul_comm ws.sum t]
    omega
  intro r hr
  obtain ⟨j, hj, rfl⟩ := List.getElem_of_mem hr
  have hj2 : j < (leftF t ws.sum ws).toNat := by rw [List.length_take] at hj; omega
  have hj3 : j < (ordF t ws).length := by rw [List.length_take] at hj; omega
  rw [List.getElem_take]
  apply Classical.byContradiction
  intro h0
  have hz : (ordF t ws)[j].f1 = 0 := by have := (hrng _ (List.getElem_mem hj3)).1; omega
  have hrest : ∀ q ∈ (ordF t ws).drop j, q.f1 = 0 := by
    intro q hq
    obtain ⟨m, hm, rfl⟩ := List.getElem_of_mem hq
    rw [List.getElem_drop]
    have hmr := hrng _ (List.getElem_mem (l := ordF t ws) (n := j + m) (by rw [List.length_drop] at hm; omega))
    by_cases e : m = 0
    · subst e; exact hz
    · have hpw := List.pairwise_iff_getElem.1 hs j (j + m) hj3 (by rw [List.length_drop] at hm; omega) (by omega)
      omega
  have e1 : ((ordF t ws).map fun r => r.f1).sum = (((ordF t ws).take j).map fun r => r.f1).sum := by
    have := List.take_append_drop j (ordF t ws)
    rw [← this, List.map_append, List.sum_append, sum_zero _ hrest]
    simp
  have e2 := (sum_pre (ws.sum - 1) (by omega) ((ordF t ws).take j) (fun q hq => hrng q (List.mem_of_mem_take hq))).2
  rw [List.length_take, Nat.min_eq_left (by omega)] at e2
  have e3 : ws.sum * ((j : Int) + 1) ≤ ws.sum * leftF t ws.sum ws := Int.mul_le_mul_of_nonneg_left (by omega) (by omega)
  have e4 : ws.sum * ((j : Int) + 1) = (j : Int) * (ws.sum - 1) + j + ws.sum := by rw [Int.mul_add, Int.mul_sub, Int.mul_comm ws.sum]; omega
  omega
theorem rests_nodup (t all : Int) : ∀ (l : List Int) (i : Nat), ((restsF t all i l).map fun r => r.f0).Nodup
  | [], _ => by simp [restsF]
  | w :: l, i => by
    simp only [restsF, List.map_cons, List.nodup_cons]
    refine ⟨fun h => ?_, rests_nodup t all l (i + 1)⟩
    obtain ⟨r, hr, he⟩ := List.mem_map.1 h
    have := rests_idx t all l (i + 1) r hr
    omega
theorem bump_get : ∀ (rs : List S98) (qs : List Int) (i : Nat), i < qs.length → (∀ r ∈ rs, 0 ≤ r.f0) → (rs.map fun r => r.f0).Nodup → (bump qs rs).getD i 0 = qs.getD i 0 + if (i : Int) ∈ rs.map (fun r => r.f0) then 1 else 0
  | [], qs, i, _, _, _ => by simp [bump]
  | r :: l, qs, i, hi, h0, hn => by
    simp only [List.map_cons, List.nodup_cons] at hn
    have hr := h0 r (by simp)
    have ih := bump_get l (qs.set r.f0.toNat (qs.getD r.f0.toNat 0 + 1)) i (by simpa using hi) (fun q hq => h0 q (by simp [hq])) hn.2
    show (bump _ l).getD i 0 = _
    rw [ih]
    by_cases e : r.f0 = (i : Int)
    · have e2 : r.f0.toNat = i := by omega
      have hnm : ¬ (i : Int) ∈ l.map (fun r => r.f0) := by rw [← e]; exact hn.1
      rw [if_neg hnm, e2, if_pos (by rw [List.map_cons]; exact List.mem_cons.2 (.inl e.symm))]
      simp [List.getD_eq_getElem?_getD, hi]
    · have e2 : ¬ r.f0.toNat = i := by omega
      have hq : (qs.set r.f0.toNat (qs.getD r.f0.toNat 0 + 1)).getD i 0 = qs.getD i 0 := by
        simp [List.getD_eq_getElem?_getD, List.getElem?_set, e2]
      rw [hq]
      congr 1
      by_cases hm : (i : Int) ∈ l.map (fun r => r.f0)
      · rw [if_pos hm, if_pos (by rw [List.map_cons]; exact List.mem_cons.2 (.inr hm))]
      · rw [if_neg hm, if_neg]
        rw [List.map_cons, List.mem_cons]
        rintro (h | h)
        · exact e h.symm
        · exact hm h
theorem parts_le (t : Int) (ws : List Int) (ht : 0 ≤ t) (hw : ∀ x ∈ ws, 0 ≤ x) (ha : 0 < ws.sum) (hta : t ≤ ws.sum) (i : Nat) (hi : i < ws.length) : (partsF t ws).getD i 0 ≤ ws[i] := by
  have hp := ord_perm t ws
  have hnd : ((ordF t ws).map fun r => r.f0).Nodup := (hp.map _).nodup_iff.2 (rests_nodup t ws.sum ws 0)
  have h0 : ∀ r ∈ ordF t ws, 0 ≤ r.f0 := fun r hr => by
    have := rests_idx t ws.sum ws 0 r (hp.mem_iff.1 hr); omega
  have hpos := picks_pos t ws ht hw ha
  have hwi := hw ws[i] (List.getElem_mem _)
  have hq : (quosF t ws.sum ws).getD i 0 = t * ws[i] / ws.sum := by
    rw [List.getD_eq_getElem?_getD, List.getElem?_eq_getElem (by rw [quosF_len]; exact hi)]; simp [quosF]
  have hle : t * ws[i] ≤ ws.sum * ws[i] := Int.mul_le_mul_of_nonneg_right hta hwi
  have hdm := Int.mul_ediv_add_emod (t * ws[i]) ws.sum
  have hm0 := Int.emod_nonneg (t * ws[i]) (b := ws.sum) (by omega)
  show (bump (quosF t ws.sum ws) ((ordF t ws).take (leftF t ws.sum ws).toNat)).getD i 0 ≤ _
  generalize hrs : (ordF t ws).take (leftF t ws.sum ws).toNat = rs at *
  have hsub : ∀ r ∈ rs, r ∈ ordF t ws := fun r hr => by rw [← hrs] at hr; exact List.mem_of_mem_take hr
  rw [bump_get rs _ i (by rw [quosF_len]; exact hi) (fun r hr => h0 r (hsub r hr)) (by rw [← hrs, List.map_take]; exact hnd.sublist (List.take_sublist _ _)), hq]
  generalize hQ : t * ws[i] / ws.sum = Q at *
  generalize hM : t * ws[i] % ws.sum = M at *
  split
  · rename_i hm
    obtain ⟨r, hr, he⟩ := List.mem_map.1 hm
    have hr1 := hpos r hr
    obtain ⟨m, hml, rfl⟩ := ord_mem t ws r (hsub r hr)
    have e : m = i := by have h2 : (m : Int) = i := he; omega
    subst e
    have hrv : rvF t ws m = M := by unfold rvF; rw [List.getD_eq_getElem?_getD, List.getElem?_eq_getElem hml, ← hM]; rfl
    have hr2 : 0 < rvF t ws m := hr1
    rw [hrv] at hr2
    apply Classical.byContradiction
    intro hc
    have : ws.sum * ws[m] ≤ ws.sum * Q := Int.mul_le_mul_of_nonneg_left (by omega) (by omega)
    omega
  · rw [Int.add_zero]
    apply Classical.byContradiction
    intro hc
    have : ws.sum * (ws[i] + 1) ≤ ws.sum * Q := Int.mul_le_mul_of_nonneg_left (by omega) (by omega)
    rw [Int.mul_add] at this
    omega
end Go.Proofs.Ytncnhhnbjmpomaa.Q
namespace Go.Proofs.Ytncnhhnbjmpomaa.Q
open Go.RowKit Go.Proofs.YtncnhhnbjmpomaaW.PrintWords Go.Proofs.Ytncnhhnbjmpomaa Go.Sort
set_option linter.unusedVariables false
set_option linter.unusedSimpArgs false
def afterF (ys : List Int) (n : Int) : List Int := List.zipWith (· - ·) ys (partsF n ys)
def Small (ys : List Int) : Prop := ys.length ≤ 10 ∧ ∀ y ∈ ys, 0 ≤ y ∧ y ≤ 65535
theorem Small.sum {ys : List Int} (h : Small ys) : 0 ≤ ys.sum ∧ ys.sum ≤ 655350 := by
  have h1 := sum_le_mul ys 65535 (fun x hx => (h.2 x hx).2)
  have h2 := sum_nn ys (fun x hx => (h.2 x hx).1)
  have := h.1
  refine ⟨h2, Int.le_trans h1 ?_⟩
  have : (ys.length : Int) * 65535 ≤ 10 * 65535 := Int.mul_le_mul_of_nonneg_right (by omega) (by decide)
  omega
theorem srt_claw : srt #[⟨0, 0⟩, ⟨1, 0⟩] = #[⟨0, 0⟩, ⟨1, 0⟩] := by
  show insOuter (ltOf cf98) 0 2 1 _ = _
  rw [insOuter_go _ _ _ _ _ (by decide)]
  have h1 : insInner (ltOf cf98) 0 1 #[(⟨0, 0⟩ : S98), ⟨1, 0⟩] = #[⟨0, 0⟩, ⟨1, 0⟩] := by rfl
  rw [h1, insOuter_stop _ _ _ _ _ (by decide)]
theorem parts_claw : partsF 4 [10, 30] = [1, 3] := by
  unfold partsF
  have h1 : (restsF 4 [10, 30].sum 0 [10, 30]).toArray = #[⟨0, 0⟩, ⟨1, 0⟩] := by rfl
  rw [h1, srt_claw]; rfl
theorem lives13_ok : EvT (fun k => souklaw13_lives.f k) true := by
  have h := take_ok [10, 30] 4 (by intro x hx; simp at hx; unfold inR; rcases hx with rfl | rfl <;> omega) ⟨by decide, by decide⟩ (by decide)
  have e : takeF [10, 30] 4 = ([1, 3], 0) := by
    unfold takeF
    rw [if_neg (by decide), if_neg (by decide), if_neg (by decide), if_neg (by decide), parts_claw]
  rw [e] at h
  have hq : EvT (fun k => slices_Equal_int64_int64.f k [1, 3] [1, 3]) true := by
    have := EvT.of_add (f := fun k => slices_Equal_int64_int64.f k [1, 3] [1, 3]) (eq_ok [1, 3] [1, 3] (by decide))
    simpa using this
  unfold souklaw13_lives.f
  refine EvT.bind (F := fun k (bt434 : List Int × Int) => if bt434.2 = 0 then (slices_Equal_int64_int64.f k bt434.1 ([1, 3] : List Int)).bind fun t441 => some t441 else some false) h ?_
  refine EvT.congr (fun k => if_pos rfl) (EvT.bind (F := fun k t => some t) hq (EvT.const _))
end Go.Proofs.Ytncnhhnbjmpomaa.Q
namespace Go.Proofs.Ytncnhhnbjmpomaa.Q
open Go.RowKit Go.Proofs.YtncnhhnbjmpomaaW.PrintWords Go.Proofs.Ytncnhhnbjmpomaa Go.Sort
set_option linter.unusedVariables false
set_option linter.unusedSimpArgs false
theorem takeF_cases (ys : List Int) (n : Int) : (∃ c, ¬ c = 0 ∧ takeF ys n = ([], c)) ∨ (takeF ys n = (partsF n ys, 0) ∧ 0 < n ∧ n ≤ ys.sum ∧ (∀ y ∈ ys, 0 ≤ y) ∧ ys.sum ≤ 9223372036854775807) := by
  unfold takeF
  by_cases h1 : n ≤ 0
  · exact .inl ⟨1, by decide, if_pos h1⟩
  rw [if_neg h1]
  by_cases h2 : (ys.any fun n => decide (n < 0)) = true
  · exact .inl ⟨1, by decide, if_pos h2⟩
  rw [if_neg h2]
  by_cases h3 : ys.sum ≤ 9223372036854775807
  · rw [if_neg (fun h => h h3)]
    by_cases h4 : ys.sum < n
    · exact .inl ⟨10, by decide, if_pos h4⟩
    · rw [if_neg h4]
      exact .inr ⟨rfl, by omega, by omega, any_false ys (eq_false_of_ne_true h2), h3⟩
  · exact .inl ⟨2, by decide, if_pos h3⟩
theorem after_more (ys : List Int) (n : Int) (h0 : 0 < n) (h1 : n ≤ ys.sum) (hw : ∀ y ∈ ys, 0 ≤ y) (hs : ys.sum ≤ 9223372036854775807) :
    (partsF n ys).length = ys.length ∧ (∀ x ∈ partsF n ys, 0 ≤ x ∧ x ≤ 9223372036854775807) ∧ (∀ i (h : i < (partsF n ys).length) (h' : i < ys.length), 0 ≤ ys[i] - (partsF n ys)[i] ∧ ys[i] - (partsF n ys)[i] ≤ ys[i]) ∧ (∀ y ∈ afterF ys n, inR y) ∧ List.zipWith (· + ·) (afterF ys n) (partsF n ys) = ys := by
  obtain ⟨p1, p2, p3⟩ := parts_facts n ys (by omega) hw (by omega)
  have hle := fun i hi => parts_le n ys (by omega) hw (by omega) h1 i hi
  have hms := mem_le_sum ys hw
  have hge : ∀ i (h : i < (partsF n ys).length) (h' : i < ys.length), 0 ≤ ys[i] - (partsF n ys)[i] ∧ ys[i] - (partsF n ys)[i] ≤ ys[i] := by
    intro i h h'
    have a := hle i h'
    rw [List.getD_eq_getElem?_getD, List.getElem?_eq_getElem h] at a
    have a : (partsF n ys)[i] ≤ ys[i] := a
    have b := p1 _ (List.getElem_mem h)
    omega
  refine ⟨p3, fun x hx => ?_, hge, fun y hy => ?_, ?_⟩
  · have := mem_le_sum (partsF n ys) p1 x hx
    have := p1 x hx
    omega
  · obtain ⟨i, hi, rfl⟩ := List.getElem_of_mem hy
    have hi2 : i < ys.length := by simp [afterF] at hi; omega
    simp only [afterF, List.getElem_zipWith]
    have := hge i (by omega) hi2
    have := hms _ (List.getElem_mem hi2)
    unfold inR; omega
  · apply List.ext_getElem
    · simp [afterF, p3]
    · intro i h h'
      simp [afterF]
end Go.Proofs.Ytncnhhnbjmpomaa.Q
namespace Go.Proofs.Ytncnhhnbjmpomaa.Q
open Go.RowKit Go.Proofs.YtncnhhnbjmpomaaW.PrintWords Go.Proofs.Ytncnhhnbjmpomaa Go.Sort
set_option linter.unusedVariables false
set_option linter.unusedSimpArgs false
theorem tk_l0 (xs ps : List Int) (hl : xs.length ≤ 40) (hp : ps.length = xs.length) (hle : ∀ i (h : i < ps.length) (h' : i < xs.length), 0 ≤ ps[i] ∧ ps[i] ≤ xs[i]) : ∀ (d i : Nat), ps.length - i = d → i ≤ ps.length →
    EvT (fun k => souklaw13_ClawTakes.l0 k xs ps (ps.length : Int) i) true
  | 0, i, hd, hi => EvT.done fun k => by simp only [souklaw13_ClawTakes.l0]; rw [if_neg (by omega)]
  | d + 1, i, hd, hi => by
    have hlt : i < ps.length := by omega
    have h := hle i hlt (by omega)
    refine EvT.step (fun k => ?_) (tk_l0 xs ps hl hp hle d (i + 1) (by omega) (by omega))
    simp only [souklaw13_ClawTakes.l0]
    rw [if_pos (by omega), if_pos (by omega), if_pos (by omega), rdI _ _ hlt, if_neg (by omega), if_pos (by omega), rdI _ _ (by omega : i < xs.length), if_neg (by omega), nx i (by omega)]
theorem eqT (a : List Int) (hl : a.length ≤ 1000) : EvT (fun k => slices_Equal_int64_int64.f k a a) true := by
  have := EvT.of_add (f := fun k => slices_Equal_int64_int64.f k a a) (eq_ok a a (by omega))
  simpa using this
theorem takes_law (xs : List Int) (a : Int) (hx : ∀ x ∈ xs, inR x) (ha : inR a) : ∃ k, souklaw13_ClawTakes.f k xs a = some true := by
  apply EvT.one
  unfold souklaw13_ClawTakes.f
  refine EvT.bind lives13_ok (EvT.congr (fun k => if_pos rfl) ?_)
  by_cases hl : 30 < xs.length
  · have e : decide ((xs.length : Int) > 30) = true := by simp; omega
    rw [e]
    refine EvT.step (g := fun k => (souklaw13_lives.f k).bind fun t => some t) (fun k => ?_) (EvT.bind (F := fun k t => some t) lives13_ok (EvT.const _))
    simp only [souklaw13_ClawTakes.j0]; rw [if_pos trivial]
  · have e : decide ((xs.length : Int) > 30) = false := by simp; omega
    rw [e]
    have g1 := take_ok xs a hx ha (by omega)
    have g2 := rtake_ok xs a hx ha (by omega)
    have hc : slices_Clone_int64_int64.f xs = some xs := by unfold slices_Clone_int64_int64.f; rw [if_pos (by omega)]
    have hlen : (takeF xs a).1.length ≤ 1000 := by
      rcases takeF_cases xs a with ⟨c, hc, ht⟩ | ⟨ht, h0, h1, hw, hs⟩
      · rw [ht]; simp
      · rw [ht]
        have := (after_more xs a h0 h1 hw hs).1
        simp only []; omega
    have hend : EvT (fun k => souklaw13_ClawTakes.l0 k xs (takeF xs a).1 ((takeF xs a).1.length : Int) 0) true := by
      rcases takeF_cases xs a with ⟨c, hc, ht⟩ | ⟨ht, h0, h1, hw, hs⟩
      · rw [ht]
        exact EvT.done fun k => by simp only [souklaw13_ClawTakes.l0]; rw [if_neg (by simp)]
      · rw [ht]
        obtain ⟨a1, a2, a3, _⟩ := after_more xs a h0 h1 hw hs
        exact tk_l0 xs (partsF a xs) (by omega) a1 (fun i h h' => by have := a2 _ (List.getElem_mem h); have := a3 i h h'; omega) _ 0 rfl (by omega)
    generalize takeF xs a = r at *
    refine EvT.step (g := fun k => (claw_Take.f k xs a).bind fun bt488 => (soukref11_Take.f k xs a).bind fun bt492 => if bt488.2 = bt492.2 then (slices_Equal_int64_int64.f k bt488.1 bt492.1).bind fun t496 => (if t496 = true then (slices_Equal_int64_int64.f k xs xs).bind fun t497 => souklaw13_ClawTakes.j1 k xs bt488.1 (!t497) else souklaw13_ClawTakes.j1 k xs bt488.1 true) else souklaw13_ClawTakes.j1 k xs bt488.1 true) (fun k => by simp only [souklaw13_ClawTakes.j0]; rw [if_neg (by decide), hc]; rfl)
      (EvT.bind (F := fun k bt488 => (soukref11_Take.f k xs a).bind fun bt492 => if bt488.2 = bt492.2 then (slices_Equal_int64_int64.f k bt488.1 bt492.1).bind fun t496 => (if t496 = true then (slices_Equal_int64_int64.f k xs xs).bind fun t497 => souklaw13_ClawTakes.j1 k xs bt488.1 (!t497) else souklaw13_ClawTakes.j1 k xs bt488.1 true) else souklaw13_ClawTakes.j1 k xs bt488.1 true) g1
        (EvT.bind (F := fun k bt492 => if r.2 = bt492.2 then (slices_Equal_int64_int64.f k r.1 bt492.1).bind fun t496 => (if t496 = true then (slices_Equal_int64_int64.f k xs xs).bind fun t497 => souklaw13_ClawTakes.j1 k xs r.1 (!t497) else souklaw13_ClawTakes.j1 k xs r.1 true) else souklaw13_ClawTakes.j1 k xs r.1 true) g2 ?_))
    refine EvT.congr (fun k => if_pos rfl) (EvT.bind (F := fun k t496 => if t496 = true then (slices_Equal_int64_int64.f k xs xs).bind fun t497 => souklaw13_ClawTakes.j1 k xs r.1 (!t497) else souklaw13_ClawTakes.j1 k xs r.1 true) (eqT r.1 hlen) ?_)
    refine EvT.congr (fun k => if_pos rfl) (EvT.bind (F := fun k t497 => souklaw13_ClawTakes.j1 k xs r.1 (!t497)) (eqT xs (by omega)) ?_)
    refine EvT.step (fun k => ?_) hend
    simp only [souklaw13_ClawTakes.j1]
    rw [if_neg (by decide)]
end Go.Proofs.Ytncnhhnbjmpomaa.Q
namespace Go.Proofs.Ytncnhhnbjmpomaa.Pure
open Go.RowKit Go.Proofs.Ytncnhhnbjmpomaa.Q Go.Proofs.YtncnhhnbjmpomaaW.PrintWords Go.Proofs.YtncnhhnbjmpomaaW.PrintLast
theorem ClawTakes : souklaw13_ClawTakes.Pure := by
  intro l0 a1 _ _ hl h1
  exact takes_law l0 a1 (fun x hx => bounds_i64 (hl x hx)) (bounds_i64 h1)
end Go.Proofs.Ytncnhhnbjmpomaa.Pure
namespace Go.Proofs.YtncnhhnbjmpomaaW.PrintWords
open Go.ChangeShapes Go.WideShapes
theorem sized_ints {H : Type} {enc : TypeId × Value → H} {P : Program} {W : World} {base : Nat} {spare : Nat → Bool} {held : Bool} {t e : TypeId} {k : IntKind} {a : Option Addr} {len cap : Nat} {d : DataW H} {ps : List MemPlace} {ts : List TypeId} {ds : List (DataW H)} {j : Nat}
    (hsz : (DataW.weightsEach P ts ds).all (· ≤ reachBytes) = true) (ht : ts[j]? = some t) (hd : ds[j]? = some d) (hu : P.underlying t = some (.slice e)) (he : P.underlying e = some (.int k)) (hc : P.cellsOf e = 1) {B : Nat} (hB : P.bytesOf e = B)
    (h : DataW.Trod enc P W base spare held t (.slice a len cap) d ps) : len * B ≤ 140737488351232 := by
  obtain ⟨fuel, hf⟩ := h
  rcases open_ints hu he hc hf with ⟨hcs, _⟩ | ⟨x, l, c, zs, hcs, _, hl, _, hz, hx, _, _⟩
  · simp [Value.cells] at hcs
    obtain ⟨rfl, rfl, rfl⟩ := hcs
    simp
  · simp [Value.cells] at hcs
    obtain ⟨rfl, rfl, rfl⟩ := hcs
    obtain ⟨hx, _⟩ := Prod.mk.inj hx
    subst hx
    have z := sized_slice hsz ht hd hu
    rw [hB] at z
    have hl2 : len ≤ zs.length := by
      rw [hz]
      split
      · exact hl
      · exact Nat.le_refl _
    have h1 : (lits (H := H) k (zs.take len)).length + (lits (H := H) k (zs.drop len)).length = zs.length := by
      simp [lits]
      omega
    rw [h1] at z
    exact Nat.le_trans (Nat.mul_le_mul_right _ hl2) z
end Go.Proofs.YtncnhhnbjmpomaaW.PrintWords
