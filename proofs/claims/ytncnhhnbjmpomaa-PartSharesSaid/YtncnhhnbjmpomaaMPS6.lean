/- What the statement leans on, part 6: functions of the program and of the reference as Lean functions, their contracts, and plain laws. -/
import Derived.Test.YtncnhhnbjmpomaaMPS5
namespace Go.Proofs.Ytncnhhnbjmpomaa.Q
open Go.RowKit Go.Proofs.YtncnhhnbjmpomaaW.PrintWords Go.Proofs.Ytncnhhnbjmpomaa Go.Sort
set_option linter.unusedVariables false
set_option linter.unusedSimpArgs false
theorem parts_facts (t : Int) (ws : List Int) (ht : 0 ≤ t) (hw : ∀ x ∈ ws, 0 ≤ x) (ha : 0 < ws.sum) : (∀ x ∈ partsF t ws, 0 ≤ x) ∧ (partsF t ws).sum = t ∧ (partsF t ws).length = ws.length := by
  have hlb := left_bd t ws ht hw ha
  have hm := mem_le_sum ws hw
  have hq0 : ∀ x ∈ quosF t ws.sum ws, 0 ≤ x := by
    intro x hx
    obtain ⟨y, hy, rfl⟩ := List.mem_map.1 hx
    exact (quo_bd ht (hw y hy) (hm y hy) ha).1
  have hp := srt_perm (restsF t ws.sum 0 ws).toArray
  have hl : (srt (restsF t ws.sum 0 ws).toArray).toList.length = ws.length := by rw [hp.1.length_eq]; simp [restsF_len]
  have hb := bump_facts ((srt (restsF t ws.sum 0 ws).toArray).toList.take (leftF t ws.sum ws).toNat) (quosF t ws.sum ws) hq0 (fun r hr => by
    have h := rests_idx t ws.sum ws 0 r (hp.1.mem_iff.1 (List.mem_of_mem_take hr))
    rw [quosF_len]; omega)
  refine ⟨hb.1, ?_, ?_⟩
  · show (bump _ _).sum = t
    rw [hb.2, List.length_take, hl, Nat.min_eq_left hlb.2]
    have : leftF t ws.sum ws = t - (quosF t ws.sum ws).sum := rfl
    omega
  · show (bump _ _).length = _
    rw [bump_len, quosF_len]
theorem rightL_ok : ∀ (l : List S106) (seen : List ByteArray), rightL seen l = 0 → ∀ x ∈ l, badS x = false
  | [], _, _, _, h => by cases h
  | y :: l, seen, h, x, hx => by
    unfold rightL at h
    split at h
    · cases h
    · rename_i hb
      split at h
      · cases h
      · rcases List.mem_cons.1 hx with rfl | hx
        · exact eq_false_of_ne_true hb
        · exact rightL_ok l _ h x hx
theorem rightL_vals : ∀ (l : List S106) (seen : List ByteArray), rightL seen l = 0 ∨ rightL seen l = 1 ∨ rightL seen l = 9
  | [], _ => .inl rfl
  | y :: l, seen => by
    unfold rightL
    split
    · exact .inr (.inl rfl)
    · split
      · exact .inr (.inr rfl)
      · exact rightL_vals l _
theorem rightF_vals (l : List S106) : rightF l = 0 ∨ rightF l = 1 ∨ rightF l = 9 := by
  unfold rightF
  split
  · exact .inr (.inl rfl)
  · exact rightL_vals l []
theorem badS_w {x : S106} (h : badS x = false) : 1 ≤ x.f1 ∧ x.f1 ≤ 1125899906842624 := by
  unfold badS at h
  simp only [Bool.or_eq_false_iff, decide_eq_false_iff_not] at h
  omega
theorem sum_le_mul : ∀ (l : List Int) (m : Int), (∀ x ∈ l, x ≤ m) → l.sum ≤ l.length * m
  | [], m, _ => by simp
  | x :: l, m, h => by
    have h1 := sum_le_mul l m (fun y hy => h y (by simp [hy]))
    have h2 := h x (by simp)
    simp only [List.sum_cons, List.length_cons, Int.natCast_add, Int.natCast_one, Int.add_mul, Int.one_mul]
    omega
theorem wts_facts (l : List S106) (h : rightF l = 0) : l.length ≤ 8 ∧ (∀ x ∈ wts l, 1 ≤ x ∧ x ≤ 1125899906842624) ∧ 0 < (wts l).sum ∧ (wts l).sum ≤ 9223372036854775807 ∧ rightL [] l = 0 := by
  unfold rightF at h
  split at h
  · cases h
  · rename_i h0
    have hw : ∀ x ∈ wts l, 1 ≤ x ∧ x ≤ 1125899906842624 := by
      intro x hx
      obtain ⟨y, hy, rfl⟩ := List.mem_map.1 hx
      exact badS_w (rightL_ok l [] h y hy)
    have h1 := sum_le_mul (wts l) 1125899906842624 (fun x hx => (hw x hx).2)
    have hlen : (wts l).length = l.length := by simp [wts]
    have hpos : 0 < (wts l).sum := by
      obtain ⟨x, xs, e⟩ : ∃ x xs, wts l = x :: xs := by
        cases hc : wts l with
        | nil => rw [hc] at hlen; simp at hlen; omega
        | cons x xs => exact ⟨x, xs, rfl⟩
      have hx := (hw x (by rw [e]; simp)).1
      have hxs := sum_nn xs (fun y hy => by have := (hw y (by rw [e]; simp [hy])).1; omega)
      rw [e, List.sum_cons]; omega
    refine ⟨by omega, hw, hpos, ?_, h⟩
    rw [hlen] at h1
    have : (l.length : Int) * 1125899906842624 ≤ 8 * 1125899906842624 := by omega
    omega
theorem badC_not {a c0 c1 c2 : Int} (h : badC a c0 c1 c2 = false) (ha : inR a) (h1 : inR c1) : 0 ≤ c0 ∧ 0 ≤ c1 ∧ 0 ≤ c2 ∧ c2 ≤ 10000 ∧ a ≤ 1125899906842624 ∧ wrap64 (wrap64 (a - c0) - c1) = a - c0 - c1 ∧ 0 ≤ a - c0 - c1 := by
  unfold badC at h
  simp only [Bool.or_eq_false_iff, decide_eq_false_iff_not] at h
  obtain ⟨⟨⟨⟨⟨⟨g1, g2⟩, g3⟩, g4⟩, g5⟩, g6⟩, g7⟩ := h
  have e1 : wrap64 (a - c0) = a - c0 := w64i (by omega) (by omega)
  rw [e1] at g7 ⊢
  have e2 : wrap64 (a - c0 - c1) = a - c0 - c1 := w64i (by omega) (by omega)
  rw [e2]
  omega
theorem split_yes (t : Int) (ws : List Int) (ht : 0 ≤ t) (hw : ∀ x ∈ ws, 1 ≤ x ∧ x ≤ 1125899906842624) (h0 : 0 < ws.sum) (h1 : ws.sum ≤ 9223372036854775807) : splitF t ws = (partsF t ws, 0) := by
  unfold splitF
  have hany : ws.any (fun n => decide (n < 0)) = false := by
    rw [List.any_eq_false]; intro x hx; have := (hw x hx).1; simp; omega
  rw [if_neg (by omega), hany, if_neg (by decide), if_neg (by omega), if_neg (by omega)]
def resE (a c0 c1 c2 : Int) (l : List S106) : Int := if badC a c0 c1 c2 = true then 1 else rightF l
def nets (a c0 c1 : Int) (l : List S106) : List Int := partsF (a - c0 - c1) (wts l)
theorem inRb_of {x : Int} (h : inR x) : inRb x = true := (inRb_iff x).2 h
theorem wts_in {l : List S106} (hw : ∀ x ∈ wts l, 1 ≤ x ∧ x ≤ 1125899906842624) : (wts l).all inRb = true := List.all_eq_true.2 fun x hx => inRb_of (by have := hw x hx; unfold inR; omega)
theorem nets_in {t : Int} (ht : 0 ≤ t) (ht2 : t ≤ 1125899906842624) {ns : List Int} (h0 : ∀ x ∈ ns, 0 ≤ x) (hs : ns.sum = t) : ∀ n ∈ ns, inR n := fun n hn => by
  have h1 := h0 n hn
  have h2 := mem_le_sum ns h0 n hn
  unfold inR; omega
theorem of_ok (a c0 c1 c2 c3 : Int) (l : List S106) (hl : l.length ≤ 20) (ha : inR a) (h1 : inR c1) (h2 : inR c2) :
    EvT (fun k => part_Of.f k a c0 c1 c2 c3 l) (if resE a c0 c1 c2 l = 0 then (List.zipWith (p68 c2) l (nets a c0 c1 l), 0) else ([], resE a c0 c1 c2 l)) := by
  refine EvT.congr (fun k => of_f k a c0 c1 c2 c3 l) ?_
  by_cases hb : badC a c0 c1 c2 = true
  · have e : resE a c0 c1 c2 l = 1 := if_pos hb
    rw [e, if_neg (by decide), hb]
    rcases rightF_vals l with h | h | h
    · refine EvT.step (g := fun k => part_Of.j1 k a l (rightF l) true c0 c1 c2 c3) (fun k => ?_) (EvT.done fun k => by simp only [part_Of.j1]; rw [if_pos trivial])
      simp only [part_Of.j0, part_Right.f, Option.bind_some]
      rw [if_pos trivial, if_pos h]
    · refine EvT.step (g := fun k => part_Of.j1 k a l (rightF l) false c0 c1 c2 c3) (fun k => ?_) (EvT.done fun k => by simp only [part_Of.j1]; rw [if_neg (by decide), if_neg (by rw [h]; decide), h])
      simp only [part_Of.j0, part_Right.f, Option.bind_some]
      rw [if_pos trivial, if_neg (by rw [h]; decide), h]; rfl
    · refine EvT.step (g := fun k => part_Of.j1 k a l (rightF l) true c0 c1 c2 c3) (fun k => ?_) (EvT.done fun k => by simp only [part_Of.j1]; rw [if_pos trivial])
      simp only [part_Of.j0, part_Right.f, Option.bind_some]
      rw [if_pos trivial, if_neg (by rw [h]; decide), h]; rfl
  · have e : resE a c0 c1 c2 l = rightF l := if_neg hb
    have hb := eq_false_of_ne_true hb
    rw [e, hb]
    refine EvT.step (g := fun k => part_Of.j1 k a l (rightF l) false c0 c1 c2 c3) (fun k => ?_) ?_
    · simp only [part_Of.j0, part_Right.f, Option.bind_some]
      rw [if_neg (by decide)]
    by_cases h0 : rightF l = 0
    · obtain ⟨w1, w2, w3, w4, w5⟩ := wts_facts l h0
      obtain ⟨b1, b2, b3, b4, b5, b6, b7⟩ := badC_not hb ha h1
      obtain ⟨p1, p2, p3⟩ := parts_facts (a - c0 - c1) (wts l) b7 (fun x hx => by have := (w2 x hx).1; omega) w3
      rw [if_pos h0]
      have hwl : (wts l).length = l.length := by simp [wts]
      have hsp : money_Split.f (wrap64 (wrap64 (a - c0) - c1)) (wts l) = some (nets a c0 c1 l, 0) := by
        unfold money_Split.f
        rw [if_pos ⟨by omega, wts_in w2, by rw [b6]; exact inRb_of (by unfold inR; omega)⟩, b6, split_yes _ _ b7 w2 w3 w4]; rfl
      have hl1 := of_l1 c2 c0 c1 c3 (nets a c0 c1 l) l hl (by show (partsF _ _).length = _; rw [p3, hwl]) (nets_in b7 (by omega) p1 p2) h2 l.length 0 (by omega) (by omega)
      have hl0 := of_l0 a c0 c1 c2 c3 l hl (v := (List.zipWith (p68 c2) l (nets a c0 c1 l), 0)) (by
        refine EvT.congr (fun k => ?_) hl1
        rw [hsp]
        simp only [Option.bind_some, if_true]
        rfl) l.length 0 (by omega) (by omega)
      refine EvT.step (fun k => ?_) hl0
      simp only [part_Of.j1]
      rw [if_neg (by decide), if_pos h0]; rfl
    · rw [if_neg h0]
      exact EvT.done fun k => by simp only [part_Of.j1]; rw [if_neg (by decide), if_neg h0]
theorem parts_ok (a c0 c1 c2 c3 : Int) (l : List S106) (hl : l.length ≤ 20) (ha : inR a) (h1 : inR c1) (h2 : inR c2) :
    EvT (fun k => soukref11_Parts.f k a c0 c1 c2 c3 l) (if resE a c0 c1 c2 l = 0 then (List.zipWith (p69 c2) l (nets a c0 c1 l), 0) else ([], resE a c0 c1 c2 l)) := by
  refine EvT.congr (fun k => parts_f k a c0 c1 c2 c3 l) ?_
  by_cases hb : badC a c0 c1 c2 = true
  · have e : resE a c0 c1 c2 l = 1 := if_pos hb
    rw [e, if_neg (by decide), hb, Bool.or_true]
    exact EvT.done fun k => by simp only [soukref11_Parts.j0]; rw [if_pos trivial]
  · have e : resE a c0 c1 c2 l = rightF l := if_neg hb
    have hb := eq_false_of_ne_true hb
    rw [e, hb, Bool.or_false]
    by_cases hlen : l.length = 0 ∨ 8 < l.length
    · have e1 : rightF l = 1 := if_pos hlen
      have e2 : (decide (l.length = 0) || decide (8 < l.length)) = true := by simpa using hlen
      rw [e1, e2, if_neg (by decide)]
      exact EvT.done fun k => by simp only [soukref11_Parts.j0]; rw [if_pos trivial]
    · have e1 : rightF l = rightL [] l := if_neg hlen
      have e2 : (decide (l.length = 0) || decide (8 < l.length)) = false := by simpa using hlen
      rw [e2]
      refine EvT.step (fun k => by simp only [soukref11_Parts.j0]; rw [if_neg (by decide)]; rfl) (parts_l0 a c0 c1 c2 c3 l hl (fun h => ?_) (fun h => ?_) l.length 0 (by omega) (by omega) rfl)
      · have h0 : rightF l = 0 := by rw [e1, h]
        obtain ⟨w1, w2, w3, w4, w5⟩ := wts_facts l h0
        obtain ⟨b1, b2, b3, b4, b5, b6, b7⟩ := badC_not hb ha h1
        obtain ⟨p1, p2, p3⟩ := parts_facts (a - c0 - c1) (wts l) b7 (fun x hx => by have := (w2 x hx).1; omega) w3
        have hwl : (wts l).length = l.length := by simp [wts]
        have hsp : soukref01_Split.f (wrap64 (wrap64 (a - c0) - c1)) (wts l) = some (nets a c0 c1 l, 0) := by
          unfold soukref01_Split.f
          rw [if_pos ⟨by omega, wts_in w2, by rw [b6]; exact inRb_of (by unfold inR; omega)⟩, b6, split_yes _ _ b7 w2 w3 w4]; rfl
        have hl1 := parts_l2 c2 c0 c1 c3 (nets a c0 c1 l) l hl (by show (partsF _ _).length = _; rw [p3, hwl]) (nets_in b7 (by omega) p1 p2) h2 l.length 0 (by omega) (by omega)
        rw [if_pos h0]
        refine EvT.congr (fun k => ?_) hl1
        rw [hsp]
        simp only [Option.bind_some]
        rfl
      · rw [e1, if_neg h]
end Go.Proofs.Ytncnhhnbjmpomaa.Q
namespace Go.Proofs.Ytncnhhnbjmpomaa.Q
open Go.RowKit Go.Proofs.YtncnhhnbjmpomaaW.PrintWords Go.Proofs.YtncnhhnbjmpomaaW.PrintLast Go.Proofs.YtncnhhnbjmpomaaW.PrintMore
attribute [local go_sem] max2_int min2_int max_two min_two max_three min_three max_four min_four   -- for this text's walks alone
set_option linter.unusedVariables false
set_option linter.unusedSimpArgs false
def souklaw12_lives.f (k : Nat)  : Option (Bool) := (part_Of.f k 100 0 0 0 0 (([(⟨(⟨#[97]⟩ : ByteArray), 1⟩ : S106), (⟨(⟨#[98]⟩ : ByteArray), 2⟩ : S106)] : List (S106)))).bind fun bt515 => (if bt515.2 = 0 then ((part_Part.f k bt515.1 (([(⟨(⟨#[97]⟩ : ByteArray), 33, 0⟩ : S68), (⟨(⟨#[98]⟩ : ByteArray), 67, 0⟩ : S68)] : List (S68)))).bind fun t522 => (some t522)) else (some false))
set_option maxHeartbeats 8000000 in
set_option maxRecDepth 100000 in
theorem souklaw12_lives.calls (k : Nat)  (r : Bool) (w : World) (h : souklaw12_lives.f k  = some r) :
  Calls Try.prog 31 #[] w fun e w' => e = .returned (.bool r) ∧ Below w.heap.size w w' := by
 have hu58 := Try.underlying58
 have hu106 := Try.underlying106
 have hu68 := Try.underlying68
 have HB := Aside0.mk (Below.refl w.heap.size w)
 have H : ((part_Of.f k 100 0 0 0 0 (([(⟨(⟨#[97]⟩ : ByteArray), 1⟩ : S106), (⟨(⟨#[98]⟩ : ByteArray), 2⟩ : S106)] : List (S106)))).bind fun bt515 => (if bt515.2 = 0 then ((part_Part.f k bt515.1 (([(⟨(⟨#[97]⟩ : ByteArray), 33, 0⟩ : S68), (⟨(⟨#[98]⟩ : ByteArray), 67, 0⟩ : S68)] : List (S68)))).bind fun t522 => (some t522)) else (some false))) = some r := h
 clear h
 obtain ⟨y512, hy512⟩ : ∃ y_ : List (S106), y_ = (([(⟨(⟨#[97]⟩ : ByteArray), 1⟩ : S106), (⟨(⟨#[98]⟩ : ByteArray), 2⟩ : S106)] : List (S106))) := ⟨_, rfl⟩
 replace H : ((part_Of.f k 100 0 0 0 0 y512).bind fun bt515 => (if bt515.2 = 0 then ((part_Part.f k bt515.1 (([(⟨(⟨#[97]⟩ : ByteArray), 33, 0⟩ : S68), (⟨(⟨#[98]⟩ : ByteArray), 67, 0⟩ : S68)] : List (S68)))).bind fun t522 => (some t522)) else (some false))) = some r := by first | (rw [hy512]; with_reducible exact H) | (have H2_ := (Option.bind_some _ _).symm.trans H; rw [hy512]; with_reducible exact H2_) | (have H2_ := (Option.bind_some _ _).symm.trans H; with_reducible exact H2_) | with_reducible exact H | (rw [hy512]; exact H) | exact H
 have Ny512 := Aside0.mk hy512
 clear hy512
 replace H := Option.bind_eq_some_iff.mp H
 obtain ⟨⟨t515, t518⟩, A10, H⟩ := H
 replace H : (if t518 = 0 then ((part_Part.f k t515 (([(⟨(⟨#[97]⟩ : ByteArray), 33, 0⟩ : S68), (⟨(⟨#[98]⟩ : ByteArray), 67, 0⟩ : S68)] : List (S68)))).bind fun t522 => (some t522)) else (some false)) = some r := H
 have A1 := Aside0.mk A10
 clear A10
 by_cases c2 : t518 = 0
 ·rw [if_pos c2] at H
  have c2b0 : (t518 == 0) = true := beq_iff_eq.mpr c2
  have c2b1 : (t518 != 0) = false := bne_eq_false_iff_eq.mpr c2
  clear c2
  obtain ⟨y519, hy519⟩ : ∃ y_ : List (S68), y_ = (([(⟨(⟨#[97]⟩ : ByteArray), 33, 0⟩ : S68), (⟨(⟨#[98]⟩ : ByteArray), 67, 0⟩ : S68)] : List (S68))) := ⟨_, rfl⟩
  replace H : ((part_Part.f k t515 y519).bind fun t522 => (some t522)) = some r := by first | (rw [hy519]; with_reducible exact H) | (have H2_ := (Option.bind_some _ _).symm.trans H; rw [hy519]; with_reducible exact H2_) | (have H2_ := (Option.bind_some _ _).symm.trans H; with_reducible exact H2_) | with_reducible exact H | (rw [hy519]; exact H) | exact H
  have Ny519 := Aside0.mk hy519
  clear hy519
  replace H := Option.bind_eq_some_iff.mp H
  obtain ⟨t522, A30, H⟩ := H
  replace H : (some t522) = some r := H
  have A3 := Aside0.mk A30
  clear A30
  obtain rfl := Option.some.inj H
  go_enter Try.func31, Try.ntmps31
  go_wp2_with (first | ((with_reducible refine gate_dst (N := 7) rfl ?_); (try (refine gate_guard (by rfl) ?_; dsimp only)); refine Kd.R_lit k106 _ 106 ?hg (N := 7) ?hd (xs := ([(⟨(⟨#[97]⟩ : ByteArray), 1⟩ : S106), (⟨(⟨#[98]⟩ : ByteArray), 2⟩ : S106)] : List (S106))) (inner := [.string (⟨#[97]⟩ : ByteArray), .int .i64 1, .string (⟨#[98]⟩ : ByteArray), .int .i64 2]) (ok := fun _ => True) (okp := fun _ => True) ?hr ?hp (fun _ hk => hk) trivial (Below.refl _ _) (Nat.le_refl _) (by simp) ?_; (case hd => rfl); (case hg => rfl); (case hr => first | (go_simp; done) | (go_simp; rfl)); (case hp => exact (Reps.c2 (show Kd.M k106 _ _ _ (⟨(⟨#[97]⟩ : ByteArray), 1⟩ : S106) [.string (⟨#[97]⟩ : ByteArray), .int .i64 1] from (k106_mkM _ _ _ (⟨(⟨#[97]⟩ : ByteArray), 1⟩ : S106) )) (Reps.c2 (show Kd.M k106 _ _ _ (⟨(⟨#[98]⟩ : ByteArray), 2⟩ : S106) [.string (⟨#[98]⟩ : ByteArray), .int .i64 2] from (k106_mkM _ _ _ (⟨(⟨#[98]⟩ : ByteArray), 2⟩ : S106) )) (Reps.none _ _)))); intro v513 w4 ho5 hb hg_ hnew_; clear hg_ hnew_; (first | rw [← Ny512.out] at ho5 | (simp only [Int.reduceToNat] at ho5; rw [← Ny512.out] at ho5)); have n0_ := Aside0.mk (Kd.R_lower ho5 (below_size (by repeat (first | (with_reducible first | exact HB.out | apply below_alloc | apply pw_below_drewN | apply below_drew1) | exact HB.out)))); have n1_ := Aside0.mk (below_step (by repeat (first | (with_reducible first | exact HB.out | apply below_alloc | apply pw_below_drewN | apply below_drew1) | exact HB.out)) hb); clear HB; have HO514 := n0_; have HB := n1_; clear n0_ n1_; clear hb ho5; obtain ⟨Ao6, co6, eo6⟩ := Kd.R_slice HO514.out; subst eo6) | ((with_reducible refine gate_callee (f := 32) rfl ?_); refine goesL_ (some 8) rfl rfl Try.func32 (by kernel_rfl) rfl #[.int .i64 100, .agg #[.int .i64 0, .int .i64 0, .int .i64 0, .int .i64 0], .slice Ao6 y512.length co6] rfl (by (try simp only [List.map_toArray, List.map_cons, List.map_nil]); first | done | rfl | (simp only [List.length_drop, List.length_take]; rfl)) ?_; (with_reducible refine (part_Of.calls k 100 0 0 0 0 _ _ y512 t515 t518 _ ?side1 ?side2 A1.out).mono ?_); (case side1 => repeat (first | exact (Kd.R_reads' HO514.out).2.2 | (with_reducible refine Kd.C_alloc ?_ _) | (with_reducible refine Kd.C_drewN ?_ _) | (with_reducible refine Kd.C_drew ?_))); (case side2 => exact (Kd.R_reads' HO514.out).2.1); rintro e w7 ⟨v516, rfl, ho0, hb⟩; refine ⟨_, rfl, ?_⟩; have n0_ := Aside0.mk (Kd.R_below (by (with_reducible repeat (first | apply Kd.R_alloc | apply Kd.R_drewN | apply Kd.R_drew)); exact HO514.out) hb); have n1_ := Aside0.mk (Kd.R_lower ho0 (below_size (by repeat (first | (with_reducible first | exact HB.out | apply below_alloc | apply pw_below_drewN | apply below_drew1) | exact HB.out)))); have n2_ := Aside0.mk (below_step (by repeat (first | (with_reducible first | exact HB.out | apply below_alloc | apply pw_below_drewN | apply below_drew1) | exact HB.out)) hb); clear HO514; clear HB; have HO514 := n0_; have HO517 := n1_; have HB := n2_; clear n0_ n1_ n2_; (try clear hb); (try clear hb2); (try clear hk); (try clear hi); (try clear ho0)) | ((with_reducible refine gate_dst (N := 17) rfl ?_); (try (refine gate_guard (by rfl) ?_; dsimp only)); refine Kd.R_lit k68 _ 68 ?hg (N := 17) ?hd (xs := ([(⟨(⟨#[97]⟩ : ByteArray), 33, 0⟩ : S68), (⟨(⟨#[98]⟩ : ByteArray), 67, 0⟩ : S68)] : List (S68))) (inner := [.string (⟨#[97]⟩ : ByteArray), .int .i64 33, .int .i64 0, .string (⟨#[98]⟩ : ByteArray), .int .i64 67, .int .i64 0]) (ok := fun _ => True) (okp := fun _ => True) ?hr ?hp (fun _ hk => hk) trivial (Below.refl _ _) (Nat.le_refl _) (by simp) ?_; (case hd => rfl); (case hg => rfl); (case hr => first | (go_simp; done) | (go_simp; rfl)); (case hp => exact (Reps.c3 (show Kd.M k68 _ _ _ (⟨(⟨#[97]⟩ : ByteArray), 33, 0⟩ : S68) [.string (⟨#[97]⟩ : ByteArray), .int .i64 33, .int .i64 0] from (k68_mkM _ _ _ (⟨(⟨#[97]⟩ : ByteArray), 33, 0⟩ : S68) )) (Reps.c3 (show Kd.M k68 _ _ _ (⟨(⟨#[98]⟩ : ByteArray), 67, 0⟩ : S68) [.string (⟨#[98]⟩ : ByteArray), .int .i64 67, .int .i64 0] from (k68_mkM _ _ _ (⟨(⟨#[98]⟩ : ByteArray), 67, 0⟩ : S68) )) (Reps.none _ _)))); intro v520 w8 ho9 hb hg_ hnew_; clear hg_ hnew_; (first | rw [← Ny519.out] at ho9 | (simp only [Int.reduceToNat] at ho9; rw [← Ny519.out] at ho9)); have n0_ := Aside0.mk (Kd.R_below (by (with_reducible repeat (first | apply Kd.R_alloc | apply Kd.R_drewN | apply Kd.R_drew)); exact HO514.out) hb); have n1_ := Aside0.mk (Kd.R_elder' (by (with_reducible repeat (first | apply Kd.R_alloc | apply Kd.R_drewN | apply Kd.R_drew)); exact HO517.out) (Kd.R_base ho9) hb); have n2_ := Aside0.mk (Kd.R_lower (Kd.R_new' ho9 (Kd.R_lt (by (with_reducible repeat (first | apply Kd.R_alloc | apply Kd.R_drewN | apply Kd.R_drew)); exact HO517.out))) (below_size (by repeat (first | (with_reducible first | exact HB.out | apply below_alloc | apply pw_below_drewN | apply below_drew1) | exact HB.out)))); have n3_ := Aside0.mk (below_step (by repeat (first | (with_reducible first | exact HB.out | apply below_alloc | apply pw_below_drewN | apply below_drew1) | exact HB.out)) hb); clear HO514; clear HO517; clear HB; have HO514 := n0_; have HO517 := n1_; have HO521 := n2_; have HB := n3_; clear n0_ n1_ n2_ n3_; clear hb ho9; obtain ⟨Ao10, co10, eo10⟩ := Kd.R_slice HO517.out; subst eo10; obtain ⟨Ao11, co11, eo11⟩ := Kd.R_slice HO521.out; subst eo11) | (go_at_call 58; (with_reducible refine (part_Part.calls k _ _ t515 _ _ y519 t522 _ ?side1 ?side2 ?side3 ?side4 A3.out).mono ?_); (case side1 => repeat (first | exact (Kd.R_reads' HO517.out).2.2 | (with_reducible refine Kd.C_alloc ?_ _) | (with_reducible refine Kd.C_drewN ?_ _) | (with_reducible refine Kd.C_drew ?_))); (case side2 => exact (Kd.R_reads' HO517.out).2.1); (case side3 => repeat (first | exact (Kd.R_reads' HO521.out).2.2 | (with_reducible refine Kd.C_alloc ?_ _) | (with_reducible refine Kd.C_drewN ?_ _) | (with_reducible refine Kd.C_drew ?_))); (case side4 => exact (Kd.R_reads' HO521.out).2.1); rintro e w' ⟨rfl, ⟨nd, rfl⟩⟩))
  go_ret
  exact ⟨by first | rfl | (simp [errW_none, errW_some] <;> rfl) | (simp [*, errW_none, errW_some] <;> rfl), by repeat (first | (with_reducible first | exact HB.out | apply below_alloc | apply pw_below_drewN | apply below_drew1) | exact HB.out)⟩
 ·rw [if_neg c2] at H
  have c2b0 : (t518 == 0) = false := beq_eq_false_iff_ne.mpr c2
  have c2b1 : (t518 != 0) = true := bne_iff_ne.mpr c2
  obtain rfl := Option.some.inj H
  go_enter Try.func31, Try.ntmps31
  go_wp2_with (first | ((with_reducible refine gate_dst (N := 7) rfl ?_); (try (refine gate_guard (by rfl) ?_; dsimp only)); refine Kd.R_lit k106 _ 106 ?hg (N := 7) ?hd (xs := ([(⟨(⟨#[97]⟩ : ByteArray), 1⟩ : S106), (⟨(⟨#[98]⟩ : ByteArray), 2⟩ : S106)] : List (S106))) (inner := [.string (⟨#[97]⟩ : ByteArray), .int .i64 1, .string (⟨#[98]⟩ : ByteArray), .int .i64 2]) (ok := fun _ => True) (okp := fun _ => True) ?hr ?hp (fun _ hk => hk) trivial (Below.refl _ _) (Nat.le_refl _) (by simp) ?_; (case hd => rfl); (case hg => rfl); (case hr => first | (go_simp; done) | (go_simp; rfl)); (case hp => exact (Reps.c2 (show Kd.M k106 _ _ _ (⟨(⟨#[97]⟩ : ByteArray), 1⟩ : S106) [.string (⟨#[97]⟩ : ByteArray), .int .i64 1] from (k106_mkM _ _ _ (⟨(⟨#[97]⟩ : ByteArray), 1⟩ : S106) )) (Reps.c2 (show Kd.M k106 _ _ _ (⟨(⟨#[98]⟩ : ByteArray), 2⟩ : S106) [.string (⟨#[98]⟩ : ByteArray), .int .i64 2] from (k106_mkM _ _ _ (⟨(⟨#[98]⟩ : ByteArray), 2⟩ : S106) )) (Reps.none _ _)))); intro v513 w12 ho13 hb hg_ hnew_; clear hg_ hnew_; (first | rw [← Ny512.out] at ho13 | (simp only [Int.reduceToNat] at ho13; rw [← Ny512.out] at ho13)); have n0_ := Aside0.mk (Kd.R_lower ho13 (below_size (by repeat (first | (with_reducible first | exact HB.out | apply below_alloc | apply pw_below_drewN | apply below_drew1) | exact HB.out)))); have n1_ := Aside0.mk (below_step (by repeat (first | (with_reducible first | exact HB.out | apply below_alloc | apply pw_below_drewN | apply below_drew1) | exact HB.out)) hb); clear HB; have HO514 := n0_; have HB := n1_; clear n0_ n1_; clear hb ho13; obtain ⟨Ao14, co14, eo14⟩ := Kd.R_slice HO514.out; subst eo14) | ((with_reducible refine gate_callee (f := 32) rfl ?_); refine goesL_ (some 8) rfl rfl Try.func32 (by kernel_rfl) rfl #[.int .i64 100, .agg #[.int .i64 0, .int .i64 0, .int .i64 0, .int .i64 0], .slice Ao14 y512.length co14] rfl (by (try simp only [List.map_toArray, List.map_cons, List.map_nil]); first | done | rfl | (simp only [List.length_drop, List.length_take]; rfl)) ?_; (with_reducible refine (part_Of.calls k 100 0 0 0 0 _ _ y512 t515 t518 _ ?side1 ?side2 A1.out).mono ?_); (case side1 => repeat (first | exact (Kd.R_reads' HO514.out).2.2 | (with_reducible refine Kd.C_alloc ?_ _) | (with_reducible refine Kd.C_drewN ?_ _) | (with_reducible refine Kd.C_drew ?_))); (case side2 => exact (Kd.R_reads' HO514.out).2.1); rintro e w15 ⟨v516, rfl, ho0, hb⟩; refine ⟨_, rfl, ?_⟩; have n0_ := Aside0.mk (Kd.R_below (by (with_reducible repeat (first | apply Kd.R_alloc | apply Kd.R_drewN | apply Kd.R_drew)); exact HO514.out) hb); have n1_ := Aside0.mk (Kd.R_lower ho0 (below_size (by repeat (first | (with_reducible first | exact HB.out | apply below_alloc | apply pw_below_drewN | apply below_drew1) | exact HB.out)))); have n2_ := Aside0.mk (below_step (by repeat (first | (with_reducible first | exact HB.out | apply below_alloc | apply pw_below_drewN | apply below_drew1) | exact HB.out)) hb); clear HO514; clear HB; have HO514 := n0_; have HO517 := n1_; have HB := n2_; clear n0_ n1_ n2_; (try clear hb); (try clear hb2); (try clear hk); (try clear hi); (try clear ho0)))
  go_ret
  exact ⟨by first | rfl | (simp [errW_none, errW_some] <;> rfl) | (simp [*, errW_none, errW_some] <;> rfl), by repeat (first | (with_reducible first | exact HB.out | apply below_alloc | apply pw_below_drewN | apply below_drew1) | exact HB.out)⟩
end Go.Proofs.Ytncnhhnbjmpomaa.Q
namespace Go.Proofs.Ytncnhhnbjmpomaa.Q
open Go.RowKit Go.Proofs.YtncnhhnbjmpomaaW.PrintWords Go.Proofs.YtncnhhnbjmpomaaW.PrintLast Go.Proofs.YtncnhhnbjmpomaaW.PrintMore
attribute [local go_sem] max2_int min2_int max_two min_two max_three min_three max_four min_four   -- for this text's walks alone
set_option linter.unusedVariables false
set_option linter.unusedSimpArgs false
theorem eqA69 (d : Nat) (w : World) (x0 y0 : ByteArray) (x1 y1 : Int) (x2 y2 : Int) :
  (Op.equalIn (d + 2) 69 (.agg #[.string x0, .int .i64 x1, .int .i64 x2]) (.agg #[.string y0, .int .i64 y1, .int .i64 y2])).run Try.prog w = .ok (x0.toList == y0.toList && (x1 == y1 && (x2 == y2))) w := by
 refine eqA_of Try.underlying69 (by kernel_rfl) ?_
 refine eqf_cons (by rfl) (by go_simp; rfl) (by go_simp; rfl) (by go_simp) ?_
 refine eqf_cons (by rfl) (by go_simp; rfl) (by go_simp; rfl) (by go_simp) ?_
 exact eqf_last (by rfl) (by go_simp; rfl) (by go_simp; rfl) (by go_simp)
end Go.Proofs.Ytncnhhnbjmpomaa.Q
namespace Go.Proofs.Ytncnhhnbjmpomaa.Q
open Go.RowKit Go.Proofs.YtncnhhnbjmpomaaW.PrintWords Go.Proofs.YtncnhhnbjmpomaaW.PrintLast Go.Proofs.YtncnhhnbjmpomaaW.PrintMore
attribute [local go_sem] max2_int min2_int max_two min_two max_three min_three max_four min_four   -- for this text's walks alone
set_option linter.unusedVariables false
set_option linter.unusedSimpArgs false
attribute [local go_sem high] eqA69
mutual
def souklaw12_PartShares.j0 : Nat → Int → List (S106) → Bool → Int → Int → Int → Int → Option (Bool)
 | 0, _, _, _, _, _, _, _ => none
 | k + 1, x0, x2, x20, x547000, x547001, x547002, x547003 => if x20 = true then ((souklaw12_lives.f k).bind fun t548 => (some t548)) else ((part_Of.f k x0 x547000 x547001 x547002 x547003 x2).bind fun bt549 => ((soukref11_Parts.f k x0 x547000 x547001 x547002 x547003 x2).bind fun bt553 => (if bt549.2 = bt553.2 then (souklaw12_PartShares.j1 k x0 bt549.1 bt549.2 bt553.1 ((bt549.1.length : Int) != (bt553.1.length : Int)) x547000 x547001 x547002 x547003) else (souklaw12_PartShares.j1 k x0 bt549.1 bt549.2 bt553.1 true x547000 x547001 x547002 x547003))))
def souklaw12_PartShares.j1 : Nat → Int → List (S68) → Int → List (S69) → Bool → Int → Int → Int → Int → Option (Bool)
 | 0, _, _, _, _, _, _, _, _, _ => none
 | k + 1, x0, x7, x8, x9, x53, x547000, x547001, x547002, x547003 => if x53 = true then (some false) else (souklaw12_PartShares.l0 k x0 x8 x9 (wrap64 (x547000 + x547001)) x7 (x7.length : Int) 0)
def souklaw12_PartShares.l0 : Nat → Int → Int → List (S69) → Int → List (S68) → Int → Int → Option (Bool)
 | 0, _, _, _, _, _, _, _ => none
 | k + 1, x0, x8, x9, x11, x59, x60, x61 => if x61 < x60 then (if 0 ≤ x61 then (if x61 < (x59.length : Int) then (if x61 < (x9.length : Int) then (if (!((((rd_T68 x59 x61).f0).toList) == (((rd_T69 x9 x61).f0).toList)) || (!(((rd_T68 x59 x61).f1) == ((rd_T69 x9 x61).f1)) || (!(((rd_T68 x59 x61).f2) == ((rd_T69 x9 x61).f2))))) = true then (some false) else (if ((rd_T68 x59 x61).f2) < 0 then (some false) else (if ((rd_T68 x59 x61).f2) > ((rd_T68 x59 x61).f1) then (some false) else (souklaw12_PartShares.l0 k x0 x8 x9 (wrap64 (x11 + ((rd_T68 x59 x61).f1))) x59 x60 (wrap64 (x61 + 1)))))) else (none)) else (none)) else (none)) else (if x8 = 0 then (some (x11 == x0)) else (some true))
end
def souklaw12_PartShares.f (k : Nat) (a0 : Int) (a1_0 : Int) (a1_1 : Int) (a1_2 : Int) (a1_3 : Int) (l2 : List (S106)) : Option (Bool) := (souklaw12_lives.f k).bind fun t547 => (if t547 = true then (souklaw12_PartShares.j0 k a0 l2 (decide ((l2.length : Int) > 20)) a1_0 a1_1 a1_2 a1_3) else (souklaw12_PartShares.j0 k a0 l2 true a1_0 a1_1 a1_2 a1_3))
set_option maxHeartbeats 8000000 in
set_option maxRecDepth 100000 in
theorem souklaw12_PartShares.calls (k : Nat) (a0 : Int) (a1_0 : Int) (a1_1 : Int) (a1_2 : Int) (a1_3 : Int) (A2 : Option Addr) (c2 : Nat) (l2 : List (S106)) (r : Bool) (w : World) (hr2 : Kd.C k106 w A2 l2.length l2) (hc2 : l2.length ≤ c2) (h : souklaw12_PartShares.f k a0 a1_0 a1_1 a1_2 a1_3 l2 = some r) :
  Calls Try.prog 9 #[.int .i64 a0, .agg #[.int .i64 a1_0, .int .i64 a1_1, .int .i64 a1_2, .int .i64 a1_3], .slice A2 l2.length c2] w fun e w' => e = .returned (.bool r) ∧ Below w.heap.size w w' := by
 have hu58 := Try.underlying58
 have hu66 := Try.underlying66
 have hu68 := Try.underlying68
 have hu69 := Try.underlying69
 have HR2 := Aside0.mk hr2
 have HC2 := Aside0.mk hc2
 clear hr2 hc2
 have HB := Aside0.mk (Below.refl w.heap.size w)
 have H : ((souklaw12_lives.f k).bind fun t547 => (if t547 = true then (souklaw12_PartShares.j0 k a0 l2 (decide ((l2.length : Int) > 20)) a1_0 a1_1 a1_2 a1_3) else (souklaw12_PartShares.j0 k a0 l2 true a1_0 a1_1 a1_2 a1_3))) = some r := h
 clear h
 have HC4 := Aside0.mk H
 clear H
 go_enter Try.func9, Try.ntmps9
 go_upto_region 1 with (first | ((with_reducible refine gate_dst (N := 4) rfl ?_); (try (refine gate_guard (by rfl) ?_; dsimp only)); refine box_event ?hg (N := 4) ?hd (cs := #[.int .i64 a1_0, .int .i64 a1_1, .int .i64 a1_2, .int .i64 a1_3]) (t := 58) ?hr ?_; (case hd => rfl); (case hg => rfl); (case hr => first | (go_simp; done) | (go_simp; rfl)); intro gb546 hg w5 hbox hb; have n0_ := Aside0.mk (below_step (by repeat (first | (with_reducible first | exact HB.out | apply below_alloc | apply pw_below_drewN | apply below_drew1) | exact HB.out)) hb); have n1_ := Aside0.mk (hbox); have n2_ := Aside0.mk ((by rw [hg]; exact (below_size (by repeat (first | (with_reducible first | exact HB.out | apply below_alloc | apply pw_below_drewN | apply below_drew1) | exact HB.out))) : w.heap.size ≤ gb546)); have n3_ := Aside0.mk ((by rw [hg]; exact (below_size (by repeat (first | (with_reducible first | exact HB.out | apply below_alloc | apply pw_below_drewN | apply below_drew1) | exact HB.out))) : w.heap.size ≤ gb546)); clear HB; have HB := n0_; have BK546 := n1_; have GW546 := n2_; have GE546 := n3_; clear n0_ n1_ n2_ n3_; clear hb hbox hg))
 repeat (go_quiet (first | ((with_reducible refine gate_dst (N := 4) rfl ?_); (try (refine gate_guard (by rfl) ?_; dsimp only)); refine box_event ?hg (N := 4) ?hd (cs := #[.int .i64 a1_0, .int .i64 a1_1, .int .i64 a1_2, .int .i64 a1_3]) (t := 58) ?hr ?_; (case hd => rfl); (case hg => rfl); (case hr => first | (go_simp; done) | (go_simp; rfl)); intro gb546 hg w5 hbox hb; have n0_ := Aside0.mk (below_step (by repeat (first | (with_reducible first | exact HB.out | apply below_alloc | apply pw_below_drewN | apply below_drew1) | exact HB.out)) hb); have n1_ := Aside0.mk (hbox); have n2_ := Aside0.mk ((by rw [hg]; exact (below_size (by repeat (first | (with_reducible first | exact HB.out | apply below_alloc | apply pw_below_drewN | apply below_drew1) | exact HB.out))) : w.heap.size ≤ gb546)); have n3_ := Aside0.mk ((by rw [hg]; exact (below_size (by repeat (first | (with_reducible first | exact HB.out | apply below_alloc | apply pw_below_drewN | apply below_drew1) | exact HB.out))) : w.heap.size ≤ gb546)); clear HB; have HB := n0_; have BK546 := n1_; have GW546 := n2_; have GE546 := n3_; clear n0_ n1_ n2_ n3_; clear hb hbox hg)); go_upto_region 1 with (first | ((with_reducible refine gate_dst (N := 4) rfl ?_); (try (refine gate_guard (by rfl) ?_; dsimp only)); refine box_event ?hg (N := 4) ?hd (cs := #[.int .i64 a1_0, .int .i64 a1_1, .int .i64 a1_2, .int .i64 a1_3]) (t := 58) ?hr ?_; (case hd => rfl); (case hg => rfl); (case hr => first | (go_simp; done) | (go_simp; rfl)); intro gb546 hg w5 hbox hb; have n0_ := Aside0.mk (below_step (by repeat (first | (with_reducible first | exact HB.out | apply below_alloc | apply pw_below_drewN | apply below_drew1) | exact HB.out)) hb); have n1_ := Aside0.mk (hbox); have n2_ := Aside0.mk ((by rw [hg]; exact (below_size (by repeat (first | (with_reducible first | exact HB.out | apply below_alloc | apply pw_below_drewN | apply below_drew1) | exact HB.out))) : w.heap.size ≤ gb546)); have n3_ := Aside0.mk ((by rw [hg]; exact (below_size (by repeat (first | (with_reducible first | exact HB.out | apply below_alloc | apply pw_below_drewN | apply below_drew1) | exact HB.out))) : w.heap.size ≤ gb546)); clear HB; have HB := n0_; have BK546 := n1_; have GW546 := n2_; have GE546 := n3_; clear n0_ n1_ n2_ n3_; clear hb hbox hg)))
 (try simp only [Act.put, List.setIfInBounds_toArray, List.set_cons_zero, List.set_cons_succ])
 go_cut [20] (fun v20 wc => ∃ (kq : Nat) (x20_3 : Bool), v20 = .bool x20_3 ∧ Aside0 (souklaw12_PartShares.j0 kq a0 l2 x20_3 a1_0 a1_1 a1_2 a1_3 = some r) ∧ Aside0 (kq ≤ k) ∧ Aside0 (wc.heap[gb546]? = some (.cells #[.int .i64 a1_0, .int .i64 a1_1, .int .i64 a1_2, .int .i64 a1_3] 58 (0, 0))) ∧ Aside0 (Below w.heap.size w wc))
 case first =>
  have H := HC4.out
  clear HC4
  replace H := Option.bind_eq_some_iff.mp H
  obtain ⟨t547, A60, H⟩ := H
  replace H : (if t547 = true then (souklaw12_PartShares.j0 k a0 l2 (decide ((l2.length : Int) > 20)) a1_0 a1_1 a1_2 a1_3) else (souklaw12_PartShares.j0 k a0 l2 true a1_0 a1_1 a1_2 a1_3)) = some r := H
  have A6 := Aside0.mk A60
  clear A60
  by_cases c7 : t547 = true
  ·subst c7
   have H1 : (souklaw12_PartShares.j0 k a0 l2 (decide ((l2.length : Int) > 20)) a1_0 a1_1 a1_2 a1_3) = some r := by rw [if_pos rfl] at H; exact H
   clear H
   have H := H1
   clear H1
   have H' := Aside0.mk H
   clear H
   go_wp2_with (first | (go_at_call 31; (with_reducible refine (souklaw12_lives.calls k  true _ A6.out).mono ?_); rintro e w8 ⟨rfl, hb⟩; have n0_ := Aside0.mk (blk_below (g := gb546) (o := .cells #[.int .i64 a1_0, .int .i64 a1_1, .int .i64 a1_2, .int .i64 a1_3] 58 (0, 0)) (by (with_reducible repeat (first | refine blk_drewN ?_ _ | refine blk_drew ?_ | refine blk_alloc ?_ _)); exact BK546.out) hb); have n1_ := Aside0.mk (below_step (by repeat (first | (with_reducible first | exact HB.out | apply below_alloc | apply pw_below_drewN | apply below_drew1 | refine below_set ?_ GE546.out) | exact HB.out)) hb); clear BK546; clear HB; have BK546 := n0_; have HB := n1_; clear n0_ n1_; (try clear hb); (try clear hb2); (try clear hk); (try clear hi)))
   repeat (go_quiet (first | (go_at_call 31; (with_reducible refine (souklaw12_lives.calls k  true _ A6.out).mono ?_); rintro e w8 ⟨rfl, hb⟩; have n0_ := Aside0.mk (blk_below (g := gb546) (o := .cells #[.int .i64 a1_0, .int .i64 a1_1, .int .i64 a1_2, .int .i64 a1_3] 58 (0, 0)) (by (with_reducible repeat (first | refine blk_drewN ?_ _ | refine blk_drew ?_ | refine blk_alloc ?_ _)); exact BK546.out) hb); have n1_ := Aside0.mk (below_step (by repeat (first | (with_reducible first | exact HB.out | apply below_alloc | apply pw_below_drewN | apply below_drew1 | refine below_set ?_ GE546.out) | exact HB.out)) hb); clear BK546; clear HB; have BK546 := n0_; have HB := n1_; clear n0_ n1_; (try clear hb); (try clear hb2); (try clear hk); (try clear hi))); try go_wp2_with (first | (go_at_call 31; (with_reducible refine (souklaw12_lives.calls k  true _ A6.out).mono ?_); rintro e w8 ⟨rfl, hb⟩; have n0_ := Aside0.mk (blk_below (g := gb546) (o := .cells #[.int .i64 a1_0, .int .i64 a1_1, .int .i64 a1_2, .int .i64 a1_3] 58 (0, 0)) (by (with_reducible repeat (first | refine blk_drewN ?_ _ | refine blk_drew ?_ | refine blk_alloc ?_ _)); exact BK546.out) hb); have n1_ := Aside0.mk (below_step (by repeat (first | (with_reducible first | exact HB.out | apply below_alloc | apply pw_below_drewN | apply below_drew1 | refine below_set ?_ GE546.out) | exact HB.out)) hb); clear BK546; clear HB; have BK546 := n0_; have HB := n1_; clear n0_ n1_; (try clear hb); (try clear hb2); (try clear hk); (try clear hi))))
   go_meet
   case rel => exact ⟨_, (decide ((l2.length : Int) > 20)), (by first | rfl | (simp; done) | (simp [*]; done)), H', ⟨by first | omega | exact Nat.le_refl _⟩, ⟨by (with_reducible repeat (first | refine blk_drewN ?_ _ | refine blk_drew ?_ | refine blk_alloc ?_ _)); exact BK546.out⟩, ⟨by repeat (first | (with_reducible first | exact HB.out | apply below_alloc | apply pw_below_drewN | apply below_drew1 | refine below_set ?_ GE546.out) | exact HB.out)⟩⟩
  ·replace c7 := Bool.eq_false_iff.mpr c7
   subst c7
   have H1 : (souklaw12_PartShares.j0 k a0 l2 true a1_0 a1_1 a1_2 a1_3) = some r := by rw [if_neg (show ¬ (false = true) by decide)] at H; exact H
   clear H
   have H := H1
   clear H1
   have H' := Aside0.mk H
   clear H
   go_wp2_with (first | (go_at_call 31; (with_reducible refine (souklaw12_lives.calls k  false _ A6.out).mono ?_); rintro e w9 ⟨rfl, hb⟩; have n0_ := Aside0.mk (blk_below (g := gb546) (o := .cells #[.int .i64 a1_0, .int .i64 a1_1, .int .i64 a1_2, .int .i64 a1_3] 58 (0, 0)) (by (with_reducible repeat (first | refine blk_drewN ?_ _ | refine blk_drew ?_ | refine blk_alloc ?_ _)); exact BK546.out) hb); have n1_ := Aside0.mk (below_step (by repeat (first | (with_reducible first | exact HB.out | apply below_alloc | apply pw_below_drewN | apply below_drew1 | refine below_set ?_ GE546.out) | exact HB.out)) hb); clear BK546; clear HB; have BK546 := n0_; have HB := n1_; clear n0_ n1_; (try clear hb); (try clear hb2); (try clear hk); (try clear hi)))
   repeat (go_quiet (first | (go_at_call 31; (with_reducible refine (souklaw12_lives.calls k  false _ A6.out).mono ?_); rintro e w9 ⟨rfl, hb⟩; have n0_ := Aside0.mk (blk_below (g := gb546) (o := .cells #[.int .i64 a1_0, .int .i64 a1_1, .int .i64 a1_2, .int .i64 a1_3] 58 (0, 0)) (by (with_reducible repeat (first | refine blk_drewN ?_ _ | refine blk_drew ?_ | refine blk_alloc ?_ _)); exact BK546.out) hb); have n1_ := Aside0.mk (below_step (by repeat (first | (with_reducible first | exact HB.out | apply below_alloc | apply pw_below_drewN | apply below_drew1 | refine below_set ?_ GE546.out) | exact HB.out)) hb); clear BK546; clear HB; have BK546 := n0_; have HB := n1_; clear n0_ n1_; (try clear hb); (try clear hb2); (try clear hk); (try clear hi))); try go_wp2_with (first | (go_at_call 31; (with_reducible refine (souklaw12_lives.calls k  false _ A6.out).mono ?_); rintro e w9 ⟨rfl, hb⟩; have n0_ := Aside0.mk (blk_below (g := gb546) (o := .cells #[.int .i64 a1_0, .int .i64 a1_1, .int .i64 a1_2, .int .i64 a1_3] 58 (0, 0)) (by (with_reducible repeat (first | refine blk_drewN ?_ _ | refine blk_drew ?_ | refine blk_alloc ?_ _)); exact BK546.out) hb); have n1_ := Aside0.mk (below_step (by repeat (first | (with_reducible first | exact HB.out | apply below_alloc | apply pw_below_drewN | apply below_drew1 | refine below_set ?_ GE546.out) | exact HB.out)) hb); clear BK546; clear HB; have BK546 := n0_; have HB := n1_; clear n0_ n1_; (try clear hb); (try clear hb2); (try clear hk); (try clear hi))))
   go_meet
   case rel => exact ⟨_, (true), (by first | rfl | (simp; done) | (simp [*]; done)), H', ⟨by first | omega | exact Nat.le_refl _⟩, ⟨by (with_reducible repeat (first | refine blk_drewN ?_ _ | refine blk_drew ?_ | refine blk_alloc ?_ _)); exact BK546.out⟩, ⟨by repeat (first | (with_reducible first | exact HB.out | apply below_alloc | apply pw_below_drewN | apply below_drew1 | refine below_set ?_ GE546.out) | exact HB.out)⟩⟩
 case rest =>
  clear HC4
  try clear c2
  try clear p2
  try clear c7
  try clear c9
  obtain ⟨kq, x20_3, rfl, HA, HJ3, BK546, HB⟩ := hcut
  cases kq with
  | zero => exact absurd HA.out (by simp [souklaw12_PartShares.j0])
  | succ kj3 =>
   have H := HA.out
   clear HA
   simp only [souklaw12_PartShares.j0] at H
   by_cases c10 : x20_3 = true
   ·subst c10
    have H1 : ((souklaw12_lives.f kj3).bind fun t548 => (some t548)) = some r := by rw [if_pos rfl] at H; exact H
    clear H
    have H := H1
    clear H1
    replace H := Option.bind_eq_some_iff.mp H
    obtain ⟨t548, A110, H⟩ := H
    replace H : (some t548) = some r := H
    have A11 := Aside0.mk A110
    clear A110
    obtain rfl := Option.some.inj H
    go_wp2_with (first | (go_at_call 31; (with_reducible refine (souklaw12_lives.calls kj3  t548 _ A11.out).mono ?_); rintro e w12 ⟨rfl, hb⟩; have n0_ := Aside0.mk (blk_below (g := gb546) (o := .cells #[.int .i64 a1_0, .int .i64 a1_1, .int .i64 a1_2, .int .i64 a1_3] 58 (0, 0)) (by (with_reducible repeat (first | refine blk_drewN ?_ _ | refine blk_drew ?_ | refine blk_alloc ?_ _)); exact BK546.out) hb); have n1_ := Aside0.mk (below_step (by repeat (first | (with_reducible first | exact HB.out | apply below_alloc | apply pw_below_drewN | apply below_drew1 | refine below_set ?_ GE546.out) | exact HB.out)) hb); clear BK546; clear HB; have BK546 := n0_; have HB := n1_; clear n0_ n1_; (try clear hb); (try clear hb2); (try clear hk); (try clear hi)))
    repeat (go_quiet (first | (go_at_call 31; (with_reducible refine (souklaw12_lives.calls kj3  t548 _ A11.out).mono ?_); rintro e w12 ⟨rfl, hb⟩; have n0_ := Aside0.mk (blk_below (g := gb546) (o := .cells #[.int .i64 a1_0, .int .i64 a1_1, .int .i64 a1_2, .int .i64 a1_3] 58 (0, 0)) (by (with_reducible repeat (first | refine blk_drewN ?_ _ | refine blk_drew ?_ | refine blk_alloc ?_ _)); exact BK546.out) hb); have n1_ := Aside0.mk (below_step (by repeat (first | (with_reducible first | exact HB.out | apply below_alloc | apply pw_below_drewN | apply below_drew1 | refine below_set ?_ GE546.out) | exact HB.out)) hb); clear BK546; clear HB; have BK546 := n0_; have HB := n1_; clear n0_ n1_; (try clear hb); (try clear hb2); (try clear hk); (try clear hi))); try go_wp2_with (first | (go_at_call 31; (with_reducible refine (souklaw12_lives.calls kj3  t548 _ A11.out).mono ?_); rintro e w12 ⟨rfl, hb⟩; have n0_ := Aside0.mk (blk_below (g := gb546) (o := .cells #[.int .i64 a1_0, .int .i64 a1_1, .int .i64 a1_2, .int .i64 a1_3] 58 (0, 0)) (by (with_reducible repeat (first | refine blk_drewN ?_ _ | refine blk_drew ?_ | refine blk_alloc ?_ _)); exact BK546.out) hb); have n1_ := Aside0.mk (below_step (by repeat (first | (with_reducible first | exact HB.out | apply below_alloc | apply pw_below_drewN | apply below_drew1 | refine below_set ?_ GE546.out) | exact HB.out)) hb); clear BK546; clear HB; have BK546 := n0_; have HB := n1_; clear n0_ n1_; (try clear hb); (try clear hb2); (try clear hk); (try clear hi))))
    go_ret
    exact ⟨by first | rfl | (simp [errW_none, errW_some] <;> rfl) | (simp [*, errW_none, errW_some] <;> rfl), by repeat (first | (with_reducible first | exact HB.out | apply below_alloc | apply pw_below_drewN | apply below_drew1 | refine below_set ?_ GE546.out) | exact HB.out)⟩
   ·replace c10 := Bool.eq_false_iff.mpr c10
    subst c10
    have H1 : ((part_Of.f kj3 a0 a1_0 a1_1 a1_2 a1_3 l2).bind fun bt549 => ((soukref11_Parts.f kj3 a0 a1_0 a1_1 a1_2 a1_3 l2).bind fun bt553 => (if bt549.2 = bt553.2 then (souklaw12_PartShares.j1 kj3 a0 bt549.1 bt549.2 bt553.1 ((bt549.1.length : Int) != (bt553.1.length : Int)) a1_0 a1_1 a1_2 a1_3) else (souklaw12_PartShares.j1 kj3 a0 bt549.1 bt549.2 bt553.1 true a1_0 a1_1 a1_2 a1_3)))) = some r := by rw [if_neg (show ¬ (false = true) by decide)] at H; exact H
    clear H
    have H := H1
    clear H1
    replace H := Option.bind_eq_some_iff.mp H
    obtain ⟨⟨t549, t552⟩, A130, H⟩ := H
    replace H : ((soukref11_Parts.f kj3 a0 a1_0 a1_1 a1_2 a1_3 l2).bind fun bt553 => (if t552 = bt553.2 then (souklaw12_PartShares.j1 kj3 a0 t549 t552 bt553.1 ((t549.length : Int) != (bt553.1.length : Int)) a1_0 a1_1 a1_2 a1_3) else (souklaw12_PartShares.j1 kj3 a0 t549 t552 bt553.1 true a1_0 a1_1 a1_2 a1_3))) = some r := H
    have A13 := Aside0.mk A130
    clear A130
    replace H := Option.bind_eq_some_iff.mp H
    obtain ⟨⟨t553, t556⟩, A140, H⟩ := H
    replace H : (if t552 = t556 then (souklaw12_PartShares.j1 kj3 a0 t549 t552 t553 ((t549.length : Int) != (t553.length : Int)) a1_0 a1_1 a1_2 a1_3) else (souklaw12_PartShares.j1 kj3 a0 t549 t552 t553 true a1_0 a1_1 a1_2 a1_3)) = some r := H
    have A14 := Aside0.mk A140
    clear A140
    have HC15 := Aside0.mk H
    clear H
    have hcz16_0 : wc.cell? ⟨gb546, 0, none⟩ = some (.int .i64 a1_0) := (blk_cell BK546.out 0).trans rfl
    have hcz16_1 : wc.cell? ⟨gb546, 1, none⟩ = some (.int .i64 a1_1) := (blk_cell BK546.out 1).trans rfl
    have hcz16_2 : wc.cell? ⟨gb546, 2, none⟩ = some (.int .i64 a1_2) := (blk_cell BK546.out 2).trans rfl
    have hcz16_3 : wc.cell? ⟨gb546, 3, none⟩ = some (.int .i64 a1_3) := (blk_cell BK546.out 3).trans rfl
    have hfz16_0 := blk_frozen BK546.out 0
    have hfz16_1 := blk_frozen BK546.out 1
    have hfz16_2 := blk_frozen BK546.out 2
    have hfz16_3 := blk_frozen BK546.out 3
    go_upto_region 5 with (first | (go_at_call 32; (with_reducible refine (part_Of.calls kj3 a0 a1_0 a1_1 a1_2 a1_3 _ _ l2 t549 t552 _ ?side1 ?side2 A13.out).mono ?_); (case side1 => repeat (first | exact (Kd.C_below HR2.out HB.out) | (with_reducible refine Kd.C_alloc ?_ _) | (with_reducible refine Kd.C_drewN ?_ _) | (with_reducible refine Kd.C_drew ?_))); (case side2 => exact HC2.out); rintro e w17 ⟨v550, rfl, ho0, hb⟩; have n0_ := Aside0.mk (Kd.R_lower ho0 (below_size (by repeat (first | (with_reducible first | exact HB.out | apply below_alloc | apply pw_below_drewN | apply below_drew1 | refine below_set ?_ GE546.out) | exact HB.out)))); have n1_ := Aside0.mk (blk_below (g := gb546) (o := .cells #[.int .i64 a1_0, .int .i64 a1_1, .int .i64 a1_2, .int .i64 a1_3] 58 (0, 0)) (by (with_reducible repeat (first | refine blk_drewN ?_ _ | refine blk_drew ?_ | refine blk_alloc ?_ _)); exact BK546.out) hb); have n2_ := Aside0.mk (below_step (by repeat (first | (with_reducible first | exact HB.out | apply below_alloc | apply pw_below_drewN | apply below_drew1 | refine below_set ?_ GE546.out) | exact HB.out)) hb); clear BK546; clear HB; have HO551 := n0_; have BK546 := n1_; have HB := n2_; clear n0_ n1_ n2_; (try clear hb); (try clear hb2); (try clear hk); (try clear hi); (try clear ho0); have hcz18_0 : w17.cell? ⟨gb546, 0, none⟩ = some (.int .i64 a1_0) := (blk_cell BK546.out 0).trans rfl; have hcz18_1 : w17.cell? ⟨gb546, 1, none⟩ = some (.int .i64 a1_1) := (blk_cell BK546.out 1).trans rfl; have hcz18_2 : w17.cell? ⟨gb546, 2, none⟩ = some (.int .i64 a1_2) := (blk_cell BK546.out 2).trans rfl; have hcz18_3 : w17.cell? ⟨gb546, 3, none⟩ = some (.int .i64 a1_3) := (blk_cell BK546.out 3).trans rfl; have hfz18_0 := blk_frozen BK546.out 0; have hfz18_1 := blk_frozen BK546.out 1; have hfz18_2 := blk_frozen BK546.out 2; have hfz18_3 := blk_frozen BK546.out 3) | (go_at_call 33; (with_reducible refine (soukref11_Parts.calls kj3 a0 a1_0 a1_1 a1_2 a1_3 _ _ l2 t553 t556 _ ?side1 ?side2 A14.out).mono ?_); (case side1 => repeat (first | exact (Kd.C_below HR2.out HB.out) | (with_reducible refine Kd.C_alloc ?_ _) | (with_reducible refine Kd.C_drewN ?_ _) | (with_reducible refine Kd.C_drew ?_))); (case side2 => exact HC2.out); rintro e w19 ⟨v554, rfl, ho0, hb⟩; have n0_ := Aside0.mk (Kd.R_below (by (with_reducible repeat (first | apply Kd.R_alloc | apply Kd.R_drewN | apply Kd.R_drew)); exact HO551.out) hb); have n1_ := Aside0.mk (Kd.R_lower ho0 (below_size (by repeat (first | (with_reducible first | exact HB.out | apply below_alloc | apply pw_below_drewN | apply below_drew1 | refine below_set ?_ GE546.out) | exact HB.out)))); have n2_ := Aside0.mk (blk_below (g := gb546) (o := .cells #[.int .i64 a1_0, .int .i64 a1_1, .int .i64 a1_2, .int .i64 a1_3] 58 (0, 0)) (by (with_reducible repeat (first | refine blk_drewN ?_ _ | refine blk_drew ?_ | refine blk_alloc ?_ _)); exact BK546.out) hb); have n3_ := Aside0.mk (below_step (by repeat (first | (with_reducible first | exact HB.out | apply below_alloc | apply pw_below_drewN | apply below_drew1 | refine below_set ?_ GE546.out) | exact HB.out)) hb); clear HO551; clear BK546; clear HB; have HO551 := n0_; have HO555 := n1_; have BK546 := n2_; have HB := n3_; clear n0_ n1_ n2_ n3_; (try clear hb); (try clear hb2); (try clear hk); (try clear hi); (try clear ho0)))
    repeat (go_quiet (first | (go_at_call 32; (with_reducible refine (part_Of.calls kj3 a0 a1_0 a1_1 a1_2 a1_3 _ _ l2 t549 t552 _ ?side1 ?side2 A13.out).mono ?_); (case side1 => repeat (first | exact (Kd.C_below HR2.out HB.out) | (with_reducible refine Kd.C_alloc ?_ _) | (with_reducible refine Kd.C_drewN ?_ _) | (with_reducible refine Kd.C_drew ?_))); (case side2 => exact HC2.out); rintro e w17 ⟨v550, rfl, ho0, hb⟩; have n0_ := Aside0.mk (Kd.R_lower ho0 (below_size (by repeat (first | (with_reducible first | exact HB.out | apply below_alloc | apply pw_below_drewN | apply below_drew1 | refine below_set ?_ GE546.out) | exact HB.out)))); have n1_ := Aside0.mk (blk_below (g := gb546) (o := .cells #[.int .i64 a1_0, .int .i64 a1_1, .int .i64 a1_2, .int .i64 a1_3] 58 (0, 0)) (by (with_reducible repeat (first | refine blk_drewN ?_ _ | refine blk_drew ?_ | refine blk_alloc ?_ _)); exact BK546.out) hb); have n2_ := Aside0.mk (below_step (by repeat (first | (with_reducible first | exact HB.out | apply below_alloc | apply pw_below_drewN | apply below_drew1 | refine below_set ?_ GE546.out) | exact HB.out)) hb); clear BK546; clear HB; have HO551 := n0_; have BK546 := n1_; have HB := n2_; clear n0_ n1_ n2_; (try clear hb); (try clear hb2); (try clear hk); (try clear hi); (try clear ho0); have hcz18_0 : w17.cell? ⟨gb546, 0, none⟩ = some (.int .i64 a1_0) := (blk_cell BK546.out 0).trans rfl; have hcz18_1 : w17.cell? ⟨gb546, 1, none⟩ = some (.int .i64 a1_1) := (blk_cell BK546.out 1).trans rfl; have hcz18_2 : w17.cell? ⟨gb546, 2, none⟩ = some (.int .i64 a1_2) := (blk_cell BK546.out 2).trans rfl; have hcz18_3 : w17.cell? ⟨gb546, 3, none⟩ = some (.int .i64 a1_3) := (blk_cell BK546.out 3).trans rfl; have hfz18_0 := blk_frozen BK546.out 0; have hfz18_1 := blk_frozen BK546.out 1; have hfz18_2 := blk_frozen BK546.out 2; have hfz18_3 := blk_frozen BK546.out 3) | (go_at_call 33; (with_reducible refine (soukref11_Parts.calls kj3 a0 a1_0 a1_1 a1_2 a1_3 _ _ l2 t553 t556 _ ?side1 ?side2 A14.out).mono ?_); (case side1 => repeat (first | exact (Kd.C_below HR2.out HB.out) | (with_reducible refine Kd.C_alloc ?_ _) | (with_reducible refine Kd.C_drewN ?_ _) | (with_reducible refine Kd.C_drew ?_))); (case side2 => exact HC2.out); rintro e w19 ⟨v554, rfl, ho0, hb⟩; have n0_ := Aside0.mk (Kd.R_below (by (with_reducible repeat (first | apply Kd.R_alloc | apply Kd.R_drewN | apply Kd.R_drew)); exact HO551.out) hb); have n1_ := Aside0.mk (Kd.R_lower ho0 (below_size (by repeat (first | (with_reducible first | exact HB.out | apply below_alloc | apply pw_below_drewN | apply below_drew1 | refine below_set ?_ GE546.out) | exact HB.out)))); have n2_ := Aside0.mk (blk_below (g := gb546) (o := .cells #[.int .i64 a1_0, .int .i64 a1_1, .int .i64 a1_2, .int .i64 a1_3] 58 (0, 0)) (by (with_reducible repeat (first | refine blk_drewN ?_ _ | refine blk_drew ?_ | refine blk_alloc ?_ _)); exact BK546.out) hb); have n3_ := Aside0.mk (below_step (by repeat (first | (with_reducible first | exact HB.out | apply below_alloc | apply pw_below_drewN | apply below_drew1 | refine below_set ?_ GE546.out) | exact HB.out)) hb); clear HO551; clear BK546; clear HB; have HO551 := n0_; have HO555 := n1_; have BK546 := n2_; have HB := n3_; clear n0_ n1_ n2_ n3_; (try clear hb); (try clear hb2); (try clear hk); (try clear hi); (try clear ho0))); go_upto_region 5 with (first | (go_at_call 32; (with_reducible refine (part_Of.calls kj3 a0 a1_0 a1_1 a1_2 a1_3 _ _ l2 t549 t552 _ ?side1 ?side2 A13.out).mono ?_); (case side1 => repeat (first | exact (Kd.C_below HR2.out HB.out) | (with_reducible refine Kd.C_alloc ?_ _) | (with_reducible refine Kd.C_drewN ?_ _) | (with_reducible refine Kd.C_drew ?_))); (case side2 => exact HC2.out); rintro e w17 ⟨v550, rfl, ho0, hb⟩; have n0_ := Aside0.mk (Kd.R_lower ho0 (below_size (by repeat (first | (with_reducible first | exact HB.out | apply below_alloc | apply pw_below_drewN | apply below_drew1 | refine below_set ?_ GE546.out) | exact HB.out)))); have n1_ := Aside0.mk (blk_below (g := gb546) (o := .cells #[.int .i64 a1_0, .int .i64 a1_1, .int .i64 a1_2, .int .i64 a1_3] 58 (0, 0)) (by (with_reducible repeat (first | refine blk_drewN ?_ _ | refine blk_drew ?_ | refine blk_alloc ?_ _)); exact BK546.out) hb); have n2_ := Aside0.mk (below_step (by repeat (first | (with_reducible first | exact HB.out | apply below_alloc | apply pw_below_drewN | apply below_drew1 | refine below_set ?_ GE546.out) | exact HB.out)) hb); clear BK546; clear HB; have HO551 := n0_; have BK546 := n1_; have HB := n2_; clear n0_ n1_ n2_; (try clear hb); (try clear hb2); (try clear hk); (try clear hi); (try clear ho0); have hcz18_0 : w17.cell? ⟨gb546, 0, none⟩ = some (.int .i64 a1_0) := (blk_cell BK546.out 0).trans rfl; have hcz18_1 : w17.cell? ⟨gb546, 1, none⟩ = some (.int .i64 a1_1) := (blk_cell BK546.out 1).trans rfl; have hcz18_2 : w17.cell? ⟨gb546, 2, none⟩ = some (.int .i64 a1_2) := (blk_cell BK546.out 2).trans rfl; have hcz18_3 : w17.cell? ⟨gb546, 3, none⟩ = some (.int .i64 a1_3) := (blk_cell BK546.out 3).trans rfl; have hfz18_0 := blk_frozen BK546.out 0; have hfz18_1 := blk_frozen BK546.out 1; have hfz18_2 := blk_frozen BK546.out 2; have hfz18_3 := blk_frozen BK546.out 3) | (go_at_call 33; (with_reducible refine (soukref11_Parts.calls kj3 a0 a1_0 a1_1 a1_2 a1_3 _ _ l2 t553 t556 _ ?side1 ?side2 A14.out).mono ?_); (case side1 => repeat (first | exact (Kd.C_below HR2.out HB.out) | (with_reducible refine Kd.C_alloc ?_ _) | (with_reducible refine Kd.C_drewN ?_ _) | (with_reducible refine Kd.C_drew ?_))); (case side2 => exact HC2.out); rintro e w19 ⟨v554, rfl, ho0, hb⟩; have n0_ := Aside0.mk (Kd.R_below (by (with_reducible repeat (first | apply Kd.R_alloc | apply Kd.R_drewN | apply Kd.R_drew)); exact HO551.out) hb); have n1_ := Aside0.mk (Kd.R_lower ho0 (below_size (by repeat (first | (with_reducible first | exact HB.out | apply below_alloc | apply pw_below_drewN | apply below_drew1 | refine below_set ?_ GE546.out) | exact HB.out)))); have n2_ := Aside0.mk (blk_below (g := gb546) (o := .cells #[.int .i64 a1_0, .int .i64 a1_1, .int .i64 a1_2, .int .i64 a1_3] 58 (0, 0)) (by (with_reducible repeat (first | refine blk_drewN ?_ _ | refine blk_drew ?_ | refine blk_alloc ?_ _)); exact BK546.out) hb); have n3_ := Aside0.mk (below_step (by repeat (first | (with_reducible first | exact HB.out | apply below_alloc | apply pw_below_drewN | apply below_drew1 | refine below_set ?_ GE546.out) | exact HB.out)) hb); clear HO551; clear BK546; clear HB; have HO551 := n0_; have HO555 := n1_; have BK546 := n2_; have HB := n3_; clear n0_ n1_ n2_ n3_; (try clear hb); (try clear hb2); (try clear hk); (try clear hi); (try clear ho0))))
    (try simp only [Act.put, List.setIfInBounds_toArray, List.set_cons_zero, List.set_cons_succ])
    go_cut [53] (fun v53 wc => ∃ (kq : Nat) (x53_14 : Bool), v53 = .bool x53_14 ∧ Aside0 (souklaw12_PartShares.j1 kq a0 t549 t552 t553 x53_14 a1_0 a1_1 a1_2 a1_3 = some r) ∧ Aside0 (kq ≤ kj3) ∧ Aside0 (Kd.R k68 68 wc w.heap.size (fun _ => True) v550 t549) ∧ Aside0 (Kd.R k69 69 wc w.heap.size (fun _ => True) v554 t553) ∧ Aside0 (wc.heap[gb546]? = some (.cells #[.int .i64 a1_0, .int .i64 a1_1, .int .i64 a1_2, .int .i64 a1_3] 58 (0, 0))) ∧ Aside0 (Below w.heap.size w wc))
    case first =>
     have H := HC15.out
     clear HC15
     by_cases c20 : t552 = t556
     ·rw [if_pos c20] at H
      have c20b0 : (t552 == t556) = true := beq_iff_eq.mpr c20
      have c20b1 : (t552 != t556) = false := bne_eq_false_iff_eq.mpr c20
      clear c20
      (first | rw [c20b0] | (simp only [i64_w, i32_w]; rw [c20b0]) | skip)
      have H' := Aside0.mk H
      clear H
      obtain ⟨Ao21, co21, eo21⟩ := Kd.R_slice HO551.out
      subst eo21
      obtain ⟨Ao22, co22, eo22⟩ := Kd.R_slice HO555.out
      subst eo22
      go_wp2
      repeat (go_quiet (fail); try go_wp2)
      go_meet
      case rel => exact ⟨_, (((t549.length : Int) != (t553.length : Int))), (by first | rfl | (simp; done) | (simp [*]; done)), H', ⟨by have := HJ3.out; first | omega | exact Nat.le_refl _⟩, ⟨by (with_reducible repeat (first | apply Kd.R_alloc | apply Kd.R_drewN | apply Kd.R_drew)); exact HO551.out⟩, ⟨by (with_reducible repeat (first | apply Kd.R_alloc | apply Kd.R_drewN | apply Kd.R_drew)); exact HO555.out⟩, ⟨by (with_reducible repeat (first | refine blk_drewN ?_ _ | refine blk_drew ?_ | refine blk_alloc ?_ _)); exact BK546.out⟩, ⟨by repeat (first | (with_reducible first | exact HB.out | apply below_alloc | apply pw_below_drewN | apply below_drew1 | refine below_set ?_ GE546.out) | exact HB.out)⟩⟩
     ·rw [if_neg c20] at H
      have c20b0 : (t552 == t556) = false := beq_eq_false_iff_ne.mpr c20
      have c20b1 : (t552 != t556) = true := bne_iff_ne.mpr c20
      (first | rw [c20b0] | (simp only [i64_w, i32_w]; rw [c20b0]) | skip)
      have H' := Aside0.mk H
      clear H
      go_wp2
      repeat (go_quiet (fail); try go_wp2)
      go_meet
      case rel => exact ⟨_, (true), (by first | rfl | (simp; done) | (simp [*]; done)), H', ⟨by have := HJ3.out; first | omega | exact Nat.le_refl _⟩, ⟨by (with_reducible repeat (first | apply Kd.R_alloc | apply Kd.R_drewN | apply Kd.R_drew)); exact HO551.out⟩, ⟨by (with_reducible repeat (first | apply Kd.R_alloc | apply Kd.R_drewN | apply Kd.R_drew)); exact HO555.out⟩, ⟨by (with_reducible repeat (first | refine blk_drewN ?_ _ | refine blk_drew ?_ | refine blk_alloc ?_ _)); exact BK546.out⟩, ⟨by repeat (first | (with_reducible first | exact HB.out | apply below_alloc | apply pw_below_drewN | apply below_drew1 | refine below_set ?_ GE546.out) | exact HB.out)⟩⟩
    case rest =>
     clear HC15
     try clear c1
     try clear c2
     try clear p2
     try clear c7
     try clear c9
     try clear c10
     try clear c20
     try clear c20b0
     try clear c20b1
     try clear hcz16_0
     try clear hcz16_1
     try clear hcz16_2
     try clear hcz16_3
     try clear hcz18_0
     try clear hcz18_1
     try clear hcz18_2
     try clear hcz18_3
     try clear hfz16_0
     try clear hfz16_1
     try clear hfz16_2
     try clear hfz16_3
     try clear hfz18_0
     try clear hfz18_1
     try clear hfz18_2
     try clear hfz18_3
     try clear p2
     obtain ⟨kq, x53_14, rfl, HA, HJ14, HO_7, HO_9, BK546, HB⟩ := hcut
     cases kq with
     | zero => exact absurd HA.out (by simp [souklaw12_PartShares.j1])
     | succ kj14 =>
      have H := HA.out
      clear HA
      simp only [souklaw12_PartShares.j1] at H
      by_cases c23 : x53_14 = true
      ·subst c23
       have H1 : (some false) = some r := by rw [if_pos rfl] at H; exact H
       clear H
       have H := H1
       clear H1
       obtain rfl := Option.some.inj H
       go_wp2
       repeat (go_quiet (fail); try go_wp2)
       go_ret
       exact ⟨by first | rfl | (simp [errW_none, errW_some] <;> rfl) | (simp [*, errW_none, errW_some] <;> rfl), by repeat (first | (with_reducible first | exact HB.out | apply below_alloc | apply pw_below_drewN | apply below_drew1 | refine below_set ?_ GE546.out) | exact HB.out)⟩
      ·replace c23 := Bool.eq_false_iff.mpr c23
       subst c23
       have H1 : (souklaw12_PartShares.l0 kj14 a0 t552 t553 (wrap64 (a1_0 + a1_1)) t549 (t549.length : Int) 0) = some r := by rw [if_neg (show ¬ (false = true) by decide)] at H; exact H
       clear H
       have H := H1
       clear H1
       have H' := Aside0.mk H
       clear H
       have hcz24_0 : wc.cell? ⟨gb546, 0, none⟩ = some (.int .i64 a1_0) := (blk_cell BK546.out 0).trans rfl
       have hcz24_1 : wc.cell? ⟨gb546, 1, none⟩ = some (.int .i64 a1_1) := (blk_cell BK546.out 1).trans rfl
       have hcz24_2 : wc.cell? ⟨gb546, 2, none⟩ = some (.int .i64 a1_2) := (blk_cell BK546.out 2).trans rfl
       have hcz24_3 : wc.cell? ⟨gb546, 3, none⟩ = some (.int .i64 a1_3) := (blk_cell BK546.out 3).trans rfl
       have hfz24_0 := blk_frozen BK546.out 0
       have hfz24_1 := blk_frozen BK546.out 1
       have hfz24_2 := blk_frozen BK546.out 2
       have hfz24_3 := blk_frozen BK546.out 3
       obtain ⟨Ao25, co25, eo25⟩ := Kd.R_slice HO_7.out
       subst eo25
       go_wp2
       repeat (go_quiet (fail); try go_wp2)
       go_loopg [11, 61] kj14 (fun kq v11 v61 w' => ∃ (x11_3 : Int) (x61_3 : Int), v11 = .int .i64 x11_3 ∧ v61 = .int .i64 x61_3 ∧ Aside0 (souklaw12_PartShares.l0 kq a0 t552 t553 x11_3 t549 (t549.length : Int) x61_3 = some r) ∧ Aside0 (kq ≤ kj14) ∧ Aside0 (Kd.R k69 69 w' w.heap.size (fun _ => True) v554 t553) ∧ Aside0 (Kd.R k68 68 w' w.heap.size (fun _ => True) (.slice Ao25 t549.length co25) t549) ∧ Aside0 (w'.heap[gb546]? = some (.cells #[.int .i64 a1_0, .int .i64 a1_1, .int .i64 a1_2, .int .i64 a1_3] 58 (0, 0))) ∧ Aside0 (Below w.heap.size w w'))
       case atStart => exact ⟨(wrap64 (a1_0 + a1_1)), (0), (by first | rfl | (simp; done) | (simp [*]; done)), (by first | rfl | (simp; done) | (simp [*]; done)), H', ⟨Nat.le_refl _⟩, ⟨by (with_reducible repeat (first | apply Kd.R_alloc | apply Kd.R_drewN | apply Kd.R_drew)); exact HO_9.out⟩, ⟨by (with_reducible repeat (first | apply Kd.R_alloc | apply Kd.R_drewN | apply Kd.R_drew)); exact HO_7.out⟩, ⟨by (with_reducible repeat (first | refine blk_drewN ?_ _ | refine blk_drew ?_ | refine blk_alloc ?_ _)); exact BK546.out⟩, ⟨by repeat (first | (with_reducible first | exact HB.out | apply below_alloc | apply pw_below_drewN | apply below_drew1 | refine below_set ?_ GE546.out) | exact HB.out)⟩⟩
       case round =>
        clear H'
        try clear c1
        try clear c2
        try clear p2
        try clear p6
        try clear c7
        try clear c9
        try clear c10
        try clear c20
        try clear c20b0
        try clear c20b1
        try clear c23
        try clear hcz16_0
        try clear hcz16_1
        try clear hcz16_2
        try clear hcz16_3
        try clear hcz18_0
        try clear hcz18_1
        try clear hcz18_2
        try clear hcz18_3
        try clear hcz24_0
        try clear hcz24_1
        try clear hcz24_2
        try clear hcz24_3
        try clear hfz16_0
        try clear hfz16_1
        try clear hfz16_2
        try clear hfz16_3
        try clear hfz18_0
        try clear hfz18_1
        try clear hfz18_2
        try clear hfz18_3
        try clear hfz24_0
        try clear hfz24_1
        try clear hfz24_2
        try clear hfz24_3
        try clear p2
        obtain ⟨x11_3, x61_3, rfl, rfl, HA, HK3, HO_9, HO_59, BK546, HB⟩ := hrel
        cases gk with
        | zero => exact absurd HA.out (by simp [souklaw12_PartShares.l0])
        | succ k3 =>
         have H := HA.out
         clear HA
         simp only [souklaw12_PartShares.l0] at H
         by_cases c26 : x61_3 < (t549.length : Int)
         ·rw [if_pos c26] at H
          have c26b0 : decide (x61_3 < (t549.length : Int)) = true := decide_eq_true c26
          clear c26
          by_cases c27 : 0 ≤ x61_3
          ·rw [if_pos c27] at H
           have c27b0 : decide (0 ≤ x61_3) = true := decide_eq_true c27
           clear c27
           by_cases c28 : x61_3 < (t549.length : Int)
           ·rw [if_pos c28] at H
            have c28b0 : decide (x61_3 < (t549.length : Int)) = true := decide_eq_true c28
            clear c28
            by_cases c29 : x61_3 < (t553.length : Int)
            ·rw [if_pos c29] at H
             have c29b0 : decide (x61_3 < (t553.length : Int)) = true := decide_eq_true c29
             clear c29
             by_cases c30 : (!((((rd_T68 t549 x61_3).f0).toList) == (((rd_T69 t553 x61_3).f0).toList)) || (!(((rd_T68 t549 x61_3).f1) == ((rd_T69 t553 x61_3).f1)) || (!(((rd_T68 t549 x61_3).f2) == ((rd_T69 t553 x61_3).f2))))) = true
             ·rw [if_pos c30] at H
              have c30b0 : (!((((rd_T68 t549 x61_3).f0).toList) == (((rd_T69 t553 x61_3).f0).toList)) || (!(((rd_T68 t549 x61_3).f1) == ((rd_T69 t553 x61_3).f1)) || (!(((rd_T68 t549 x61_3).f2) == ((rd_T69 t553 x61_3).f2))))) = true := c30
              clear c30
              obtain rfl := Option.some.inj H
              have p557 : 0 ≤ (x61_3 : Int) := of_decide_eq_true (by first | (with_reducible assumption) | assumption)
              have q557 : x61_3 < (t549.length : Int) := of_decide_eq_true (by first | (with_reducible assumption) | assumption)
              obtain ⟨ad557, e557, hx557_0, hx557_1, hx557_2⟩ := at_T68 (Kd.R_reads' HO_59.out).2.2 x61_3 p557 q557
              cases e557
              replace p557 := eq_true p557
              replace q557 := eq_true q557
              go_wp2_with (first | ((with_reducible refine gate_dst (N := 13) rfl ?_); (try (refine gate_guard (by rfl) ?_; dsimp only)); refine box_event ?hg (N := 13) ?hd (cs := #[.string (⟨#[]⟩ : ByteArray), .int .i64 0, .int .i64 0]) (t := 68) ?hr ?_; (case hd => rfl); (case hg => rfl); (case hr => first | (go_simp; done) | (go_simp; rfl)); intro gb558 hg w31 hbox hb; have n0_ := Aside0.mk (Kd.R_below (by (with_reducible repeat (first | apply Kd.R_alloc | apply Kd.R_drewN | apply Kd.R_drew)); exact HO_9.out) hb); have n1_ := Aside0.mk (Kd.R_below (Kd.R_elderB (by (with_reducible repeat (first | apply Kd.R_alloc | apply Kd.R_drewN | apply Kd.R_drew)); exact HO_59.out) gb558 (Nat.le_of_eq hg.symm)) hb); have n2_ := Aside0.mk (blk_below (g := gb546) (o := .cells #[.int .i64 a1_0, .int .i64 a1_1, .int .i64 a1_2, .int .i64 a1_3] 58 (0, 0)) (by (with_reducible repeat (first | refine blk_drewN ?_ _ | refine blk_drew ?_ | refine blk_alloc ?_ _)); exact BK546.out) hb); have n3_ := Aside0.mk (below_step (by repeat (first | (with_reducible first | exact HB.out | apply below_alloc | apply pw_below_drewN | apply below_drew1 | refine below_set ?_ GE546.out) | exact HB.out)) hb); have n4_ := Aside0.mk (hbox); have n5_ := Aside0.mk ((by rw [hg]; exact (below_size (by repeat (first | (with_reducible first | exact HB.out | apply below_alloc | apply pw_below_drewN | apply below_drew1 | refine below_set ?_ GE546.out) | exact HB.out))) : w.heap.size ≤ gb558)); have n6_ := Aside0.mk ((by rw [hg]; exact (below_size (by repeat (first | (with_reducible first | exact HB.out | apply below_alloc | apply pw_below_drewN | apply below_drew1 | refine below_set ?_ GE546.out) | exact HB.out))) : w.heap.size ≤ gb558)); have n7_ := Aside0.mk ((by rw [hg]; exact Nat.ne_of_lt (blk_lt (g := gb546) (o := .cells #[.int .i64 a1_0, .int .i64 a1_1, .int .i64 a1_2, .int .i64 a1_3] 58 (0, 0)) (by (with_reducible repeat (first | refine blk_drewN ?_ _ | refine blk_drew ?_ | refine blk_alloc ?_ _)); exact BK546.out)) : gb546 ≠ gb558)); have n8_ := Aside0.mk ((by rw [hg]; exact Nat.ne_of_gt (blk_lt (g := gb546) (o := .cells #[.int .i64 a1_0, .int .i64 a1_1, .int .i64 a1_2, .int .i64 a1_3] 58 (0, 0)) (by (with_reducible repeat (first | refine blk_drewN ?_ _ | refine blk_drew ?_ | refine blk_alloc ?_ _)); exact BK546.out)) : gb558 ≠ gb546)); clear HO_9; clear HO_59; clear BK546; clear HB; have HO_9 := n0_; have HO_59 := n1_; have BK546 := n2_; have HB := n3_; have BK558 := n4_; have GW558 := n5_; have GE558 := n6_; have NB546_558 := n7_; have NB558_546 := n8_; clear n0_ n1_ n2_ n3_ n4_ n5_ n6_ n7_ n8_; clear hb hbox hg; have hnb32 := NB558_546.out; have hnc32 := NB546_558.out; have hcz33_0 : w31.cell? ⟨gb558, 0, none⟩ = some (.string (⟨#[]⟩ : ByteArray)) := (blk_cell BK558.out 0).trans rfl; have hcz33_1 : w31.cell? ⟨gb558, 1, none⟩ = some (.int .i64 0) := (blk_cell BK558.out 1).trans rfl; have hcz33_2 : w31.cell? ⟨gb558, 2, none⟩ = some (.int .i64 0) := (blk_cell BK558.out 2).trans rfl; have hfz33_0 := blk_frozen BK558.out 0; have hfz33_1 := blk_frozen BK558.out 1; have hfz33_2 := blk_frozen BK558.out 2; obtain ⟨Ao34, co34, eo34⟩ := Kd.R_slice HO_9.out; subst eo34; have p559 : 0 ≤ (x61_3 : Int) := of_decide_eq_true (by first | (with_reducible assumption) | assumption); have q559 : x61_3 < (t553.length : Int) := of_decide_eq_true (by first | (with_reducible assumption) | assumption); obtain ⟨ad559, e559, hx559_0, hx559_1, hx559_2⟩ := at_T69 (Kd.R_reads' HO_9.out).2.2 x61_3 p559 q559; cases e559; have hn559_0 : ad559.block ≠ gb558 := Kd.own_blk (Kd.R_ne HO_9.out BK558.out (by decide)); have hn559_1 : ad559.block ≠ gb558 := Kd.own_blk (Kd.R_ne HO_9.out BK558.out (by decide)); have hn559_2 : ad559.block ≠ gb558 := Kd.own_blk (Kd.R_ne HO_9.out BK558.out (by decide)); replace hx559_0 := (cell_far (p := ⟨gb558, 0, none⟩) (by first | (rw [add_block]; exact hn559_0) | (show (Addr.add _ _).block ≠ _; rw [add_block]; exact hn559_0) | exact hn559_0) (.string ((rd_T68 t549 x61_3).f0))).trans hx559_0; replace hx559_1 := (cell_far (p := ⟨gb558, 0, none⟩) (by first | (rw [add_block]; exact hn559_0) | (show (Addr.add _ _).block ≠ _; rw [add_block]; exact hn559_0) | exact hn559_0) (.string ((rd_T68 t549 x61_3).f0))).trans hx559_1; replace hx559_2 := (cell_far (p := ⟨gb558, 0, none⟩) (by first | (rw [add_block]; exact hn559_0) | (show (Addr.add _ _).block ≠ _; rw [add_block]; exact hn559_0) | exact hn559_0) (.string ((rd_T68 t549 x61_3).f0))).trans hx559_2; replace hx559_0 := (cell_far (p := ⟨gb558, 1, none⟩) (by first | (rw [add_block]; exact hn559_1) | (show (Addr.add _ _).block ≠ _; rw [add_block]; exact hn559_1) | exact hn559_1) (.int .i64 ((rd_T68 t549 x61_3).f1))).trans hx559_0; replace hx559_1 := (cell_far (p := ⟨gb558, 1, none⟩) (by first | (rw [add_block]; exact hn559_1) | (show (Addr.add _ _).block ≠ _; rw [add_block]; exact hn559_1) | exact hn559_1) (.int .i64 ((rd_T68 t549 x61_3).f1))).trans hx559_1; replace hx559_2 := (cell_far (p := ⟨gb558, 1, none⟩) (by first | (rw [add_block]; exact hn559_1) | (show (Addr.add _ _).block ≠ _; rw [add_block]; exact hn559_1) | exact hn559_1) (.int .i64 ((rd_T68 t549 x61_3).f1))).trans hx559_2; replace hx559_0 := (cell_far (p := ⟨gb558, 2, none⟩) (by first | (rw [add_block]; exact hn559_2) | (show (Addr.add _ _).block ≠ _; rw [add_block]; exact hn559_2) | exact hn559_2) (.int .i64 ((rd_T68 t549 x61_3).f2))).trans hx559_0; replace hx559_1 := (cell_far (p := ⟨gb558, 2, none⟩) (by first | (rw [add_block]; exact hn559_2) | (show (Addr.add _ _).block ≠ _; rw [add_block]; exact hn559_2) | exact hn559_2) (.int .i64 ((rd_T68 t549 x61_3).f2))).trans hx559_1; replace hx559_2 := (cell_far (p := ⟨gb558, 2, none⟩) (by first | (rw [add_block]; exact hn559_2) | (show (Addr.add _ _).block ≠ _; rw [add_block]; exact hn559_2) | exact hn559_2) (.int .i64 ((rd_T68 t549 x61_3).f2))).trans hx559_2; (try have hy559_0 := fun (n_ : Nat) => (show (((((w31.drewN n_).setCell ⟨gb558, 0, none⟩ (.string ((rd_T68 t549 x61_3).f0))).setCell ⟨gb558, 1, none⟩ (.int .i64 ((rd_T68 t549 x61_3).f1))).setCell ⟨gb558, 2, none⟩ (.int .i64 ((rd_T68 t549 x61_3).f2)))).cell? _ = some _ from hx559_0)); (try have hy559_1 := fun (n_ : Nat) => (show (((((w31.drewN n_).setCell ⟨gb558, 0, none⟩ (.string ((rd_T68 t549 x61_3).f0))).setCell ⟨gb558, 1, none⟩ (.int .i64 ((rd_T68 t549 x61_3).f1))).setCell ⟨gb558, 2, none⟩ (.int .i64 ((rd_T68 t549 x61_3).f2)))).cell? _ = some _ from hx559_1)); (try have hy559_2 := fun (n_ : Nat) => (show (((((w31.drewN n_).setCell ⟨gb558, 0, none⟩ (.string ((rd_T68 t549 x61_3).f0))).setCell ⟨gb558, 1, none⟩ (.int .i64 ((rd_T68 t549 x61_3).f1))).setCell ⟨gb558, 2, none⟩ (.int .i64 ((rd_T68 t549 x61_3).f2)))).cell? _ = some _ from hx559_2)); clear hn559_0; clear hn559_1; clear hn559_2; replace p559 := eq_true p559; replace q559 := eq_true q559))
              repeat (go_quiet (first | ((with_reducible refine gate_dst (N := 13) rfl ?_); (try (refine gate_guard (by rfl) ?_; dsimp only)); refine box_event ?hg (N := 13) ?hd (cs := #[.string (⟨#[]⟩ : ByteArray), .int .i64 0, .int .i64 0]) (t := 68) ?hr ?_; (case hd => rfl); (case hg => rfl); (case hr => first | (go_simp; done) | (go_simp; rfl)); intro gb558 hg w31 hbox hb; have n0_ := Aside0.mk (Kd.R_below (by (with_reducible repeat (first | apply Kd.R_alloc | apply Kd.R_drewN | apply Kd.R_drew)); exact HO_9.out) hb); have n1_ := Aside0.mk (Kd.R_below (Kd.R_elderB (by (with_reducible repeat (first | apply Kd.R_alloc | apply Kd.R_drewN | apply Kd.R_drew)); exact HO_59.out) gb558 (Nat.le_of_eq hg.symm)) hb); have n2_ := Aside0.mk (blk_below (g := gb546) (o := .cells #[.int .i64 a1_0, .int .i64 a1_1, .int .i64 a1_2, .int .i64 a1_3] 58 (0, 0)) (by (with_reducible repeat (first | refine blk_drewN ?_ _ | refine blk_drew ?_ | refine blk_alloc ?_ _)); exact BK546.out) hb); have n3_ := Aside0.mk (below_step (by repeat (first | (with_reducible first | exact HB.out | apply below_alloc | apply pw_below_drewN | apply below_drew1 | refine below_set ?_ GE546.out) | exact HB.out)) hb); have n4_ := Aside0.mk (hbox); have n5_ := Aside0.mk ((by rw [hg]; exact (below_size (by repeat (first | (with_reducible first | exact HB.out | apply below_alloc | apply pw_below_drewN | apply below_drew1 | refine below_set ?_ GE546.out) | exact HB.out))) : w.heap.size ≤ gb558)); have n6_ := Aside0.mk ((by rw [hg]; exact (below_size (by repeat (first | (with_reducible first | exact HB.out | apply below_alloc | apply pw_below_drewN | apply below_drew1 | refine below_set ?_ GE546.out) | exact HB.out))) : w.heap.size ≤ gb558)); have n7_ := Aside0.mk ((by rw [hg]; exact Nat.ne_of_lt (blk_lt (g := gb546) (o := .cells #[.int .i64 a1_0, .int .i64 a1_1, .int .i64 a1_2, .int .i64 a1_3] 58 (0, 0)) (by (with_reducible repeat (first | refine blk_drewN ?_ _ | refine blk_drew ?_ | refine blk_alloc ?_ _)); exact BK546.out)) : gb546 ≠ gb558)); have n8_ := Aside0.mk ((by rw [hg]; exact Nat.ne_of_gt (blk_lt (g := gb546) (o := .cells #[.int .i64 a1_0, .int .i64 a1_1, .int .i64 a1_2, .int .i64 a1_3] 58 (0, 0)) (by (with_reducible repeat (first | refine blk_drewN ?_ _ | refine blk_drew ?_ | refine blk_alloc ?_ _)); exact BK546.out)) : gb558 ≠ gb546)); clear HO_9; clear HO_59; clear BK546; clear HB; have HO_9 := n0_; have HO_59 := n1_; have BK546 := n2_; have HB := n3_; have BK558 := n4_; have GW558 := n5_; have GE558 := n6_; have NB546_558 := n7_; have NB558_546 := n8_; clear n0_ n1_ n2_ n3_ n4_ n5_ n6_ n7_ n8_; clear hb hbox hg; have hnb32 := NB558_546.out; have hnc32 := NB546_558.out; have hcz33_0 : w31.cell? ⟨gb558, 0, none⟩ = some (.string (⟨#[]⟩ : ByteArray)) := (blk_cell BK558.out 0).trans rfl; have hcz33_1 : w31.cell? ⟨gb558, 1, none⟩ = some (.int .i64 0) := (blk_cell BK558.out 1).trans rfl; have hcz33_2 : w31.cell? ⟨gb558, 2, none⟩ = some (.int .i64 0) := (blk_cell BK558.out 2).trans rfl; have hfz33_0 := blk_frozen BK558.out 0; have hfz33_1 := blk_frozen BK558.out 1; have hfz33_2 := blk_frozen BK558.out 2; obtain ⟨Ao34, co34, eo34⟩ := Kd.R_slice HO_9.out; subst eo34; have p559 : 0 ≤ (x61_3 : Int) := of_decide_eq_true (by first | (with_reducible assumption) | assumption); have q559 : x61_3 < (t553.length : Int) := of_decide_eq_true (by first | (with_reducible assumption) | assumption); obtain ⟨ad559, e559, hx559_0, hx559_1, hx559_2⟩ := at_T69 (Kd.R_reads' HO_9.out).2.2 x61_3 p559 q559; cases e559; have hn559_0 : ad559.block ≠ gb558 := Kd.own_blk (Kd.R_ne HO_9.out BK558.out (by decide)); have hn559_1 : ad559.block ≠ gb558 := Kd.own_blk (Kd.R_ne HO_9.out BK558.out (by decide)); have hn559_2 : ad559.block ≠ gb558 := Kd.own_blk (Kd.R_ne HO_9.out BK558.out (by decide)); replace hx559_0 := (cell_far (p := ⟨gb558, 0, none⟩) (by first | (rw [add_block]; exact hn559_0) | (show (Addr.add _ _).block ≠ _; rw [add_block]; exact hn559_0) | exact hn559_0) (.string ((rd_T68 t549 x61_3).f0))).trans hx559_0; replace hx559_1 := (cell_far (p := ⟨gb558, 0, none⟩) (by first | (rw [add_block]; exact hn559_0) | (show (Addr.add _ _).block ≠ _; rw [add_block]; exact hn559_0) | exact hn559_0) (.string ((rd_T68 t549 x61_3).f0))).trans hx559_1; replace hx559_2 := (cell_far (p := ⟨gb558, 0, none⟩) (by first | (rw [add_block]; exact hn559_0) | (show (Addr.add _ _).block ≠ _; rw [add_block]; exact hn559_0) | exact hn559_0) (.string ((rd_T68 t549 x61_3).f0))).trans hx559_2; replace hx559_0 := (cell_far (p := ⟨gb558, 1, none⟩) (by first | (rw [add_block]; exact hn559_1) | (show (Addr.add _ _).block ≠ _; rw [add_block]; exact hn559_1) | exact hn559_1) (.int .i64 ((rd_T68 t549 x61_3).f1))).trans hx559_0; replace hx559_1 := (cell_far (p := ⟨gb558, 1, none⟩) (by first | (rw [add_block]; exact hn559_1) | (show (Addr.add _ _).block ≠ _; rw [add_block]; exact hn559_1) | exact hn559_1) (.int .i64 ((rd_T68 t549 x61_3).f1))).trans hx559_1; replace hx559_2 := (cell_far (p := ⟨gb558, 1, none⟩) (by first | (rw [add_block]; exact hn559_1) | (show (Addr.add _ _).block ≠ _; rw [add_block]; exact hn559_1) | exact hn559_1) (.int .i64 ((rd_T68 t549 x61_3).f1))).trans hx559_2; replace hx559_0 := (cell_far (p := ⟨gb558, 2, none⟩) (by first | (rw [add_block]; exact hn559_2) | (show (Addr.add _ _).block ≠ _; rw [add_block]; exact hn559_2) | exact hn559_2) (.int .i64 ((rd_T68 t549 x61_3).f2))).trans hx559_0; replace hx559_1 := (cell_far (p := ⟨gb558, 2, none⟩) (by first | (rw [add_block]; exact hn559_2) | (show (Addr.add _ _).block ≠ _; rw [add_block]; exact hn559_2) | exact hn559_2) (.int .i64 ((rd_T68 t549 x61_3).f2))).trans hx559_1; replace hx559_2 := (cell_far (p := ⟨gb558, 2, none⟩) (by first | (rw [add_block]; exact hn559_2) | (show (Addr.add _ _).block ≠ _; rw [add_block]; exact hn559_2) | exact hn559_2) (.int .i64 ((rd_T68 t549 x61_3).f2))).trans hx559_2; (try have hy559_0 := fun (n_ : Nat) => (show (((((w31.drewN n_).setCell ⟨gb558, 0, none⟩ (.string ((rd_T68 t549 x61_3).f0))).setCell ⟨gb558, 1, none⟩ (.int .i64 ((rd_T68 t549 x61_3).f1))).setCell ⟨gb558, 2, none⟩ (.int .i64 ((rd_T68 t549 x61_3).f2)))).cell? _ = some _ from hx559_0)); (try have hy559_1 := fun (n_ : Nat) => (show (((((w31.drewN n_).setCell ⟨gb558, 0, none⟩ (.string ((rd_T68 t549 x61_3).f0))).setCell ⟨gb558, 1, none⟩ (.int .i64 ((rd_T68 t549 x61_3).f1))).setCell ⟨gb558, 2, none⟩ (.int .i64 ((rd_T68 t549 x61_3).f2)))).cell? _ = some _ from hx559_1)); (try have hy559_2 := fun (n_ : Nat) => (show (((((w31.drewN n_).setCell ⟨gb558, 0, none⟩ (.string ((rd_T68 t549 x61_3).f0))).setCell ⟨gb558, 1, none⟩ (.int .i64 ((rd_T68 t549 x61_3).f1))).setCell ⟨gb558, 2, none⟩ (.int .i64 ((rd_T68 t549 x61_3).f2)))).cell? _ = some _ from hx559_2)); clear hn559_0; clear hn559_1; clear hn559_2; replace p559 := eq_true p559; replace q559 := eq_true q559)); try go_wp2_with (first | ((with_reducible refine gate_dst (N := 13) rfl ?_); (try (refine gate_guard (by rfl) ?_; dsimp only)); refine box_event ?hg (N := 13) ?hd (cs := #[.string (⟨#[]⟩ : ByteArray), .int .i64 0, .int .i64 0]) (t := 68) ?hr ?_; (case hd => rfl); (case hg => rfl); (case hr => first | (go_simp; done) | (go_simp; rfl)); intro gb558 hg w31 hbox hb; have n0_ := Aside0.mk (Kd.R_below (by (with_reducible repeat (first | apply Kd.R_alloc | apply Kd.R_drewN | apply Kd.R_drew)); exact HO_9.out) hb); have n1_ := Aside0.mk (Kd.R_below (Kd.R_elderB (by (with_reducible repeat (first | apply Kd.R_alloc | apply Kd.R_drewN | apply Kd.R_drew)); exact HO_59.out) gb558 (Nat.le_of_eq hg.symm)) hb); have n2_ := Aside0.mk (blk_below (g := gb546) (o := .cells #[.int .i64 a1_0, .int .i64 a1_1, .int .i64 a1_2, .int .i64 a1_3] 58 (0, 0)) (by (with_reducible repeat (first | refine blk_drewN ?_ _ | refine blk_drew ?_ | refine blk_alloc ?_ _)); exact BK546.out) hb); have n3_ := Aside0.mk (below_step (by repeat (first | (with_reducible first | exact HB.out | apply below_alloc | apply pw_below_drewN | apply below_drew1 | refine below_set ?_ GE546.out) | exact HB.out)) hb); have n4_ := Aside0.mk (hbox); have n5_ := Aside0.mk ((by rw [hg]; exact (below_size (by repeat (first | (with_reducible first | exact HB.out | apply below_alloc | apply pw_below_drewN | apply below_drew1 | refine below_set ?_ GE546.out) | exact HB.out))) : w.heap.size ≤ gb558)); have n6_ := Aside0.mk ((by rw [hg]; exact (below_size (by repeat (first | (with_reducible first | exact HB.out | apply below_alloc | apply pw_below_drewN | apply below_drew1 | refine below_set ?_ GE546.out) | exact HB.out))) : w.heap.size ≤ gb558)); have n7_ := Aside0.mk ((by rw [hg]; exact Nat.ne_of_lt (blk_lt (g := gb546) (o := .cells #[.int .i64 a1_0, .int .i64 a1_1, .int .i64 a1_2, .int .i64 a1_3] 58 (0, 0)) (by (with_reducible repeat (first | refine blk_drewN ?_ _ | refine blk_drew ?_ | refine blk_alloc ?_ _)); exact BK546.out)) : gb546 ≠ gb558)); have n8_ := Aside0.mk ((by rw [hg]; exact Nat.ne_of_gt (blk_lt (g := gb546) (o := .cells #[.int .i64 a1_0, .int .i64 a1_1, .int .i64 a1_2, .int .i64 a1_3] 58 (0, 0)) (by (with_reducible repeat (first | refine blk_drewN ?_ _ | refine blk_drew ?_ | refine blk_alloc ?_ _)); exact BK546.out)) : gb558 ≠ gb546)); clear HO_9; clear HO_59; clear BK546; clear HB; have HO_9 := n0_; have HO_59 := n1_; have BK546 := n2_; have HB := n3_; have BK558 := n4_; have GW558 := n5_; have GE558 := n6_; have NB546_558 := n7_; have NB558_546 := n8_; clear n0_ n1_ n2_ n3_ n4_ n5_ n6_ n7_ n8_; clear hb hbox hg; have hnb32 := NB558_546.out; have hnc32 := NB546_558.out; have hcz33_0 : w31.cell? ⟨gb558, 0, none⟩ = some (.string (⟨#[]⟩ : ByteArray)) := (blk_cell BK558.out 0).trans rfl; have hcz33_1 : w31.cell? ⟨gb558, 1, none⟩ = some (.int .i64 0) := (blk_cell BK558.out 1).trans rfl; have hcz33_2 : w31.cell? ⟨gb558, 2, none⟩ = some (.int .i64 0) := (blk_cell BK558.out 2).trans rfl; have hfz33_0 := blk_frozen BK558.out 0; have hfz33_1 := blk_frozen BK558.out 1; have hfz33_2 := blk_frozen BK558.out 2; obtain ⟨Ao34, co34, eo34⟩ := Kd.R_slice HO_9.out; subst eo34; have p559 : 0 ≤ (x61_3 : Int) := of_decide_eq_true (by first | (with_reducible assumption) | assumption); have q559 : x61_3 < (t553.length : Int) := of_decide_eq_true (by first | (with_reducible assumption) | assumption); obtain ⟨ad559, e559, hx559_0, hx559_1, hx559_2⟩ := at_T69 (Kd.R_reads' HO_9.out).2.2 x61_3 p559 q559; cases e559; have hn559_0 : ad559.block ≠ gb558 := Kd.own_blk (Kd.R_ne HO_9.out BK558.out (by decide)); have hn559_1 : ad559.block ≠ gb558 := Kd.own_blk (Kd.R_ne HO_9.out BK558.out (by decide)); have hn559_2 : ad559.block ≠ gb558 := Kd.own_blk (Kd.R_ne HO_9.out BK558.out (by decide)); replace hx559_0 := (cell_far (p := ⟨gb558, 0, none⟩) (by first | (rw [add_block]; exact hn559_0) | (show (Addr.add _ _).block ≠ _; rw [add_block]; exact hn559_0) | exact hn559_0) (.string ((rd_T68 t549 x61_3).f0))).trans hx559_0; replace hx559_1 := (cell_far (p := ⟨gb558, 0, none⟩) (by first | (rw [add_block]; exact hn559_0) | (show (Addr.add _ _).block ≠ _; rw [add_block]; exact hn559_0) | exact hn559_0) (.string ((rd_T68 t549 x61_3).f0))).trans hx559_1; replace hx559_2 := (cell_far (p := ⟨gb558, 0, none⟩) (by first | (rw [add_block]; exact hn559_0) | (show (Addr.add _ _).block ≠ _; rw [add_block]; exact hn559_0) | exact hn559_0) (.string ((rd_T68 t549 x61_3).f0))).trans hx559_2; replace hx559_0 := (cell_far (p := ⟨gb558, 1, none⟩) (by first | (rw [add_block]; exact hn559_1) | (show (Addr.add _ _).block ≠ _; rw [add_block]; exact hn559_1) | exact hn559_1) (.int .i64 ((rd_T68 t549 x61_3).f1))).trans hx559_0; replace hx559_1 := (cell_far (p := ⟨gb558, 1, none⟩) (by first | (rw [add_block]; exact hn559_1) | (show (Addr.add _ _).block ≠ _; rw [add_block]; exact hn559_1) | exact hn559_1) (.int .i64 ((rd_T68 t549 x61_3).f1))).trans hx559_1; replace hx559_2 := (cell_far (p := ⟨gb558, 1, none⟩) (by first | (rw [add_block]; exact hn559_1) | (show (Addr.add _ _).block ≠ _; rw [add_block]; exact hn559_1) | exact hn559_1) (.int .i64 ((rd_T68 t549 x61_3).f1))).trans hx559_2; replace hx559_0 := (cell_far (p := ⟨gb558, 2, none⟩) (by first | (rw [add_block]; exact hn559_2) | (show (Addr.add _ _).block ≠ _; rw [add_block]; exact hn559_2) | exact hn559_2) (.int .i64 ((rd_T68 t549 x61_3).f2))).trans hx559_0; replace hx559_1 := (cell_far (p := ⟨gb558, 2, none⟩) (by first | (rw [add_block]; exact hn559_2) | (show (Addr.add _ _).block ≠ _; rw [add_block]; exact hn559_2) | exact hn559_2) (.int .i64 ((rd_T68 t549 x61_3).f2))).trans hx559_1; replace hx559_2 := (cell_far (p := ⟨gb558, 2, none⟩) (by first | (rw [add_block]; exact hn559_2) | (show (Addr.add _ _).block ≠ _; rw [add_block]; exact hn559_2) | exact hn559_2) (.int .i64 ((rd_T68 t549 x61_3).f2))).trans hx559_2; (try have hy559_0 := fun (n_ : Nat) => (show (((((w31.drewN n_).setCell ⟨gb558, 0, none⟩ (.string ((rd_T68 t549 x61_3).f0))).setCell ⟨gb558, 1, none⟩ (.int .i64 ((rd_T68 t549 x61_3).f1))).setCell ⟨gb558, 2, none⟩ (.int .i64 ((rd_T68 t549 x61_3).f2)))).cell? _ = some _ from hx559_0)); (try have hy559_1 := fun (n_ : Nat) => (show (((((w31.drewN n_).setCell ⟨gb558, 0, none⟩ (.string ((rd_T68 t549 x61_3).f0))).setCell ⟨gb558, 1, none⟩ (.int .i64 ((rd_T68 t549 x61_3).f1))).setCell ⟨gb558, 2, none⟩ (.int .i64 ((rd_T68 t549 x61_3).f2)))).cell? _ = some _ from hx559_1)); (try have hy559_2 := fun (n_ : Nat) => (show (((((w31.drewN n_).setCell ⟨gb558, 0, none⟩ (.string ((rd_T68 t549 x61_3).f0))).setCell ⟨gb558, 1, none⟩ (.int .i64 ((rd_T68 t549 x61_3).f1))).setCell ⟨gb558, 2, none⟩ (.int .i64 ((rd_T68 t549 x61_3).f2)))).cell? _ = some _ from hx559_2)); clear hn559_0; clear hn559_1; clear hn559_2; replace p559 := eq_true p559; replace q559 := eq_true q559)))
              go_ret
              exact ⟨by first | rfl | (simp [errW_none, errW_some] <;> rfl) | (simp [*, errW_none, errW_some] <;> rfl), by repeat (first | (with_reducible first | exact HB.out | apply below_alloc | apply pw_below_drewN | apply below_drew1 | refine below_set ?_ GE546.out | refine below_set ?_ GE558.out) | exact HB.out)⟩
             ·rw [if_neg c30] at H
              have c30b0 : (!((((rd_T68 t549 x61_3).f0).toList) == (((rd_T69 t553 x61_3).f0).toList)) || (!(((rd_T68 t549 x61_3).f1) == ((rd_T69 t553 x61_3).f1)) || (!(((rd_T68 t549 x61_3).f2) == ((rd_T69 t553 x61_3).f2))))) = false := by simpa using c30
              clear c30
              by_cases c35 : ((rd_T68 t549 x61_3).f2) < 0
              ·rw [if_pos c35] at H
               have c35b0 : decide (((rd_T68 t549 x61_3).f2) < 0) = true := decide_eq_true c35
               clear c35
               obtain rfl := Option.some.inj H
               have p557 : 0 ≤ (x61_3 : Int) := of_decide_eq_true (by first | (with_reducible assumption) | assumption)
               have q557 : x61_3 < (t549.length : Int) := of_decide_eq_true (by first | (with_reducible assumption) | assumption)
               obtain ⟨ad557, e557, hx557_0, hx557_1, hx557_2⟩ := at_T68 (Kd.R_reads' HO_59.out).2.2 x61_3 p557 q557
               cases e557
               replace p557 := eq_true p557
               replace q557 := eq_true q557
               go_wp2_with (first | ((with_reducible refine gate_dst (N := 13) rfl ?_); (try (refine gate_guard (by rfl) ?_; dsimp only)); refine box_event ?hg (N := 13) ?hd (cs := #[.string (⟨#[]⟩ : ByteArray), .int .i64 0, .int .i64 0]) (t := 68) ?hr ?_; (case hd => rfl); (case hg => rfl); (case hr => first | (go_simp; done) | (go_simp; rfl)); intro gb558 hg w36 hbox hb; have n0_ := Aside0.mk (Kd.R_below (by (with_reducible repeat (first | apply Kd.R_alloc | apply Kd.R_drewN | apply Kd.R_drew)); exact HO_9.out) hb); have n1_ := Aside0.mk (Kd.R_below (Kd.R_elderB (by (with_reducible repeat (first | apply Kd.R_alloc | apply Kd.R_drewN | apply Kd.R_drew)); exact HO_59.out) gb558 (Nat.le_of_eq hg.symm)) hb); have n2_ := Aside0.mk (blk_below (g := gb546) (o := .cells #[.int .i64 a1_0, .int .i64 a1_1, .int .i64 a1_2, .int .i64 a1_3] 58 (0, 0)) (by (with_reducible repeat (first | refine blk_drewN ?_ _ | refine blk_drew ?_ | refine blk_alloc ?_ _)); exact BK546.out) hb); have n3_ := Aside0.mk (below_step (by repeat (first | (with_reducible first | exact HB.out | apply below_alloc | apply pw_below_drewN | apply below_drew1 | refine below_set ?_ GE546.out) | exact HB.out)) hb); have n4_ := Aside0.mk (hbox); have n5_ := Aside0.mk ((by rw [hg]; exact (below_size (by repeat (first | (with_reducible first | exact HB.out | apply below_alloc | apply pw_below_drewN | apply below_drew1 | refine below_set ?_ GE546.out) | exact HB.out))) : w.heap.size ≤ gb558)); have n6_ := Aside0.mk ((by rw [hg]; exact (below_size (by repeat (first | (with_reducible first | exact HB.out | apply below_alloc | apply pw_below_drewN | apply below_drew1 | refine below_set ?_ GE546.out) | exact HB.out))) : w.heap.size ≤ gb558)); have n7_ := Aside0.mk ((by rw [hg]; exact Nat.ne_of_lt (blk_lt (g := gb546) (o := .cells #[.int .i64 a1_0, .int .i64 a1_1, .int .i64 a1_2, .int .i64 a1_3] 58 (0, 0)) (by (with_reducible repeat (first | refine blk_drewN ?_ _ | refine blk_drew ?_ | refine blk_alloc ?_ _)); exact BK546.out)) : gb546 ≠ gb558)); have n8_ := Aside0.mk ((by rw [hg]; exact Nat.ne_of_gt (blk_lt (g := gb546) (o := .cells #[.int .i64 a1_0, .int .i64 a1_1, .int .i64 a1_2, .int .i64 a1_3] 58 (0, 0)) (by (with_reducible repeat (first | refine blk_drewN ?_ _ | refine blk_drew ?_ | refine blk_alloc ?_ _)); exact BK546.out)) : gb558 ≠ gb546)); clear HO_9; clear HO_59; clear BK546; clear HB; have HO_9 := n0_; have HO_59 := n1_; have BK546 := n2_; have HB := n3_; have BK558 := n4_; have GW558 := n5_; have GE558 := n6_; have NB546_558 := n7_; have NB558_546 := n8_; clear n0_ n1_ n2_ n3_ n4_ n5_ n6_ n7_ n8_; clear hb hbox hg; have hnb37 := NB558_546.out; have hnc37 := NB546_558.out; have hcz38_0 : w36.cell? ⟨gb558, 0, none⟩ = some (.string (⟨#[]⟩ : ByteArray)) := (blk_cell BK558.out 0).trans rfl; have hcz38_1 : w36.cell? ⟨gb558, 1, none⟩ = some (.int .i64 0) := (blk_cell BK558.out 1).trans rfl; have hcz38_2 : w36.cell? ⟨gb558, 2, none⟩ = some (.int .i64 0) := (blk_cell BK558.out 2).trans rfl; have hfz38_0 := blk_frozen BK558.out 0; have hfz38_1 := blk_frozen BK558.out 1; have hfz38_2 := blk_frozen BK558.out 2; obtain ⟨Ao39, co39, eo39⟩ := Kd.R_slice HO_9.out; subst eo39; have p559 : 0 ≤ (x61_3 : Int) := of_decide_eq_true (by first | (with_reducible assumption) | assumption); have q559 : x61_3 < (t553.length : Int) := of_decide_eq_true (by first | (with_reducible assumption) | assumption); obtain ⟨ad559, e559, hx559_0, hx559_1, hx559_2⟩ := at_T69 (Kd.R_reads' HO_9.out).2.2 x61_3 p559 q559; cases e559; have hn559_0 : ad559.block ≠ gb558 := Kd.own_blk (Kd.R_ne HO_9.out BK558.out (by decide)); have hn559_1 : ad559.block ≠ gb558 := Kd.own_blk (Kd.R_ne HO_9.out BK558.out (by decide)); have hn559_2 : ad559.block ≠ gb558 := Kd.own_blk (Kd.R_ne HO_9.out BK558.out (by decide)); replace hx559_0 := (cell_far (p := ⟨gb558, 0, none⟩) (by first | (rw [add_block]; exact hn559_0) | (show (Addr.add _ _).block ≠ _; rw [add_block]; exact hn559_0) | exact hn559_0) (.string ((rd_T68 t549 x61_3).f0))).trans hx559_0; replace hx559_1 := (cell_far (p := ⟨gb558, 0, none⟩) (by first | (rw [add_block]; exact hn559_0) | (show (Addr.add _ _).block ≠ _; rw [add_block]; exact hn559_0) | exact hn559_0) (.string ((rd_T68 t549 x61_3).f0))).trans hx559_1; replace hx559_2 := (cell_far (p := ⟨gb558, 0, none⟩) (by first | (rw [add_block]; exact hn559_0) | (show (Addr.add _ _).block ≠ _; rw [add_block]; exact hn559_0) | exact hn559_0) (.string ((rd_T68 t549 x61_3).f0))).trans hx559_2; replace hx559_0 := (cell_far (p := ⟨gb558, 1, none⟩) (by first | (rw [add_block]; exact hn559_1) | (show (Addr.add _ _).block ≠ _; rw [add_block]; exact hn559_1) | exact hn559_1) (.int .i64 ((rd_T68 t549 x61_3).f1))).trans hx559_0; replace hx559_1 := (cell_far (p := ⟨gb558, 1, none⟩) (by first | (rw [add_block]; exact hn559_1) | (show (Addr.add _ _).block ≠ _; rw [add_block]; exact hn559_1) | exact hn559_1) (.int .i64 ((rd_T68 t549 x61_3).f1))).trans hx559_1; replace hx559_2 := (cell_far (p := ⟨gb558, 1, none⟩) (by first | (rw [add_block]; exact hn559_1) | (show (Addr.add _ _).block ≠ _; rw [add_block]; exact hn559_1) | exact hn559_1) (.int .i64 ((rd_T68 t549 x61_3).f1))).trans hx559_2; replace hx559_0 := (cell_far (p := ⟨gb558, 2, none⟩) (by first | (rw [add_block]; exact hn559_2) | (show (Addr.add _ _).block ≠ _; rw [add_block]; exact hn559_2) | exact hn559_2) (.int .i64 ((rd_T68 t549 x61_3).f2))).trans hx559_0; replace hx559_1 := (cell_far (p := ⟨gb558, 2, none⟩) (by first | (rw [add_block]; exact hn559_2) | (show (Addr.add _ _).block ≠ _; rw [add_block]; exact hn559_2) | exact hn559_2) (.int .i64 ((rd_T68 t549 x61_3).f2))).trans hx559_1; replace hx559_2 := (cell_far (p := ⟨gb558, 2, none⟩) (by first | (rw [add_block]; exact hn559_2) | (show (Addr.add _ _).block ≠ _; rw [add_block]; exact hn559_2) | exact hn559_2) (.int .i64 ((rd_T68 t549 x61_3).f2))).trans hx559_2; (try have hy559_0 := fun (n_ : Nat) => (show (((((w36.drewN n_).setCell ⟨gb558, 0, none⟩ (.string ((rd_T68 t549 x61_3).f0))).setCell ⟨gb558, 1, none⟩ (.int .i64 ((rd_T68 t549 x61_3).f1))).setCell ⟨gb558, 2, none⟩ (.int .i64 ((rd_T68 t549 x61_3).f2)))).cell? _ = some _ from hx559_0)); (try have hy559_1 := fun (n_ : Nat) => (show (((((w36.drewN n_).setCell ⟨gb558, 0, none⟩ (.string ((rd_T68 t549 x61_3).f0))).setCell ⟨gb558, 1, none⟩ (.int .i64 ((rd_T68 t549 x61_3).f1))).setCell ⟨gb558, 2, none⟩ (.int .i64 ((rd_T68 t549 x61_3).f2)))).cell? _ = some _ from hx559_1)); (try have hy559_2 := fun (n_ : Nat) => (show (((((w36.drewN n_).setCell ⟨gb558, 0, none⟩ (.string ((rd_T68 t549 x61_3).f0))).setCell ⟨gb558, 1, none⟩ (.int .i64 ((rd_T68 t549 x61_3).f1))).setCell ⟨gb558, 2, none⟩ (.int .i64 ((rd_T68 t549 x61_3).f2)))).cell? _ = some _ from hx559_2)); clear hn559_0; clear hn559_1; clear hn559_2; replace p559 := eq_true p559; replace q559 := eq_true q559))
               repeat (go_quiet (first | ((with_reducible refine gate_dst (N := 13) rfl ?_); (try (refine gate_guard (by rfl) ?_; dsimp only)); refine box_event ?hg (N := 13) ?hd (cs := #[.string (⟨#[]⟩ : ByteArray), .int .i64 0, .int .i64 0]) (t := 68) ?hr ?_; (case hd => rfl); (case hg => rfl); (case hr => first | (go_simp; done) | (go_simp; rfl)); intro gb558 hg w36 hbox hb; have n0_ := Aside0.mk (Kd.R_below (by (with_reducible repeat (first | apply Kd.R_alloc | apply Kd.R_drewN | apply Kd.R_drew)); exact HO_9.out) hb); have n1_ := Aside0.mk (Kd.R_below (Kd.R_elderB (by (with_reducible repeat (first | apply Kd.R_alloc | apply Kd.R_drewN | apply Kd.R_drew)); exact HO_59.out) gb558 (Nat.le_of_eq hg.symm)) hb); have n2_ := Aside0.mk (blk_below (g := gb546) (o := .cells #[.int .i64 a1_0, .int .i64 a1_1, .int .i64 a1_2, .int .i64 a1_3] 58 (0, 0)) (by (with_reducible repeat (first | refine blk_drewN ?_ _ | refine blk_drew ?_ | refine blk_alloc ?_ _)); exact BK546.out) hb); have n3_ := Aside0.mk (below_step (by repeat (first | (with_reducible first | exact HB.out | apply below_alloc | apply pw_below_drewN | apply below_drew1 | refine below_set ?_ GE546.out) | exact HB.out)) hb); have n4_ := Aside0.mk (hbox); have n5_ := Aside0.mk ((by rw [hg]; exact (below_size (by repeat (first | (with_reducible first | exact HB.out | apply below_alloc | apply pw_below_drewN | apply below_drew1 | refine below_set ?_ GE546.out) | exact HB.out))) : w.heap.size ≤ gb558)); have n6_ := Aside0.mk ((by rw [hg]; exact (below_size (by repeat (first | (with_reducible first | exact HB.out | apply below_alloc | apply pw_below_drewN | apply below_drew1 | refine below_set ?_ GE546.out) | exact HB.out))) : w.heap.size ≤ gb558)); have n7_ := Aside0.mk ((by rw [hg]; exact Nat.ne_of_lt (blk_lt (g := gb546) (o := .cells #[.int .i64 a1_0, .int .i64 a1_1, .int .i64 a1_2, .int .i64 a1_3] 58 (0, 0)) (by (with_reducible repeat (first | refine blk_drewN ?_ _ | refine blk_drew ?_ | refine blk_alloc ?_ _)); exact BK546.out)) : gb546 ≠ gb558)); have n8_ := Aside0.mk ((by rw [hg]; exact Nat.ne_of_gt (blk_lt (g := gb546) (o := .cells #[.int .i64 a1_0, .int .i64 a1_1, .int .i64 a1_2, .int .i64 a1_3] 58 (0, 0)) (by (with_reducible repeat (first | refine blk_drewN ?_ _ | refine blk_drew ?_ | refine blk_alloc ?_ _)); exact BK546.out)) : gb558 ≠ gb546)); clear HO_9; clear HO_59; clear BK546; clear HB; have HO_9 := n0_; have HO_59 := n1_; have BK546 := n2_; have HB := n3_; have BK558 := n4_; have GW558 := n5_; have GE558 := n6_; have NB546_558 := n7_; have NB558_546 := n8_; clear n0_ n1_ n2_ n3_ n4_ n5_ n6_ n7_ n8_; clear hb hbox hg; have hnb37 := NB558_546.out; have hnc37 := NB546_558.out; have hcz38_0 : w36.cell? ⟨gb558, 0, none⟩ = some (.string (⟨#[]⟩ : ByteArray)) := (blk_cell BK558.out 0).trans rfl; have hcz38_1 : w36.cell? ⟨gb558, 1, none⟩ = some (.int .i64 0) := (blk_cell BK558.out 1).trans rfl; have hcz38_2 : w36.cell? ⟨gb558, 2, none⟩ = some (.int .i64 0) := (blk_cell BK558.out 2).trans rfl; have hfz38_0 := blk_frozen BK558.out 0; have hfz38_1 := blk_frozen BK558.out 1; have hfz38_2 := blk_frozen BK558.out 2; obtain ⟨Ao39, co39, eo39⟩ := Kd.R_slice HO_9.out; subst eo39; have p559 : 0 ≤ (x61_3 : Int) := of_decide_eq_true (by first | (with_reducible assumption) | assumption); have q559 : x61_3 < (t553.length : Int) := of_decide_eq_true (by first | (with_reducible assumption) | assumption); obtain ⟨ad559, e559, hx559_0, hx559_1, hx559_2⟩ := at_T69 (Kd.R_reads' HO_9.out).2.2 x61_3 p559 q559; cases e559; have hn559_0 : ad559.block ≠ gb558 := Kd.own_blk (Kd.R_ne HO_9.out BK558.out (by decide)); have hn559_1 : ad559.block ≠ gb558 := Kd.own_blk (Kd.R_ne HO_9.out BK558.out (by decide)); have hn559_2 : ad559.block ≠ gb558 := Kd.own_blk (Kd.R_ne HO_9.out BK558.out (by decide)); replace hx559_0 := (cell_far (p := ⟨gb558, 0, none⟩) (by first | (rw [add_block]; exact hn559_0) | (show (Addr.add _ _).block ≠ _; rw [add_block]; exact hn559_0) | exact hn559_0) (.string ((rd_T68 t549 x61_3).f0))).trans hx559_0; replace hx559_1 := (cell_far (p := ⟨gb558, 0, none⟩) (by first | (rw [add_block]; exact hn559_0) | (show (Addr.add _ _).block ≠ _; rw [add_block]; exact hn559_0) | exact hn559_0) (.string ((rd_T68 t549 x61_3).f0))).trans hx559_1; replace hx559_2 := (cell_far (p := ⟨gb558, 0, none⟩) (by first | (rw [add_block]; exact hn559_0) | (show (Addr.add _ _).block ≠ _; rw [add_block]; exact hn559_0) | exact hn559_0) (.string ((rd_T68 t549 x61_3).f0))).trans hx559_2; replace hx559_0 := (cell_far (p := ⟨gb558, 1, none⟩) (by first | (rw [add_block]; exact hn559_1) | (show (Addr.add _ _).block ≠ _; rw [add_block]; exact hn559_1) | exact hn559_1) (.int .i64 ((rd_T68 t549 x61_3).f1))).trans hx559_0; replace hx559_1 := (cell_far (p := ⟨gb558, 1, none⟩) (by first | (rw [add_block]; exact hn559_1) | (show (Addr.add _ _).block ≠ _; rw [add_block]; exact hn559_1) | exact hn559_1) (.int .i64 ((rd_T68 t549 x61_3).f1))).trans hx559_1; replace hx559_2 := (cell_far (p := ⟨gb558, 1, none⟩) (by first | (rw [add_block]; exact hn559_1) | (show (Addr.add _ _).block ≠ _; rw [add_block]; exact hn559_1) | exact hn559_1) (.int .i64 ((rd_T68 t549 x61_3).f1))).trans hx559_2; replace hx559_0 := (cell_far (p := ⟨gb558, 2, none⟩) (by first | (rw [add_block]; exact hn559_2) | (show (Addr.add _ _).block ≠ _; rw [add_block]; exact hn559_2) | exact hn559_2) (.int .i64 ((rd_T68 t549 x61_3).f2))).trans hx559_0; replace hx559_1 := (cell_far (p := ⟨gb558, 2, none⟩) (by first | (rw [add_block]; exact hn559_2) | (show (Addr.add _ _).block ≠ _; rw [add_block]; exact hn559_2) | exact hn559_2) (.int .i64 ((rd_T68 t549 x61_3).f2))).trans hx559_1; replace hx559_2 := (cell_far (p := ⟨gb558, 2, none⟩) (by first | (rw [add_block]; exact hn559_2) | (show (Addr.add _ _).block ≠ _; rw [add_block]; exact hn559_2) | exact hn559_2) (.int .i64 ((rd_T68 t549 x61_3).f2))).trans hx559_2; (try have hy559_0 := fun (n_ : Nat) => (show (((((w36.drewN n_).setCell ⟨gb558, 0, none⟩ (.string ((rd_T68 t549 x61_3).f0))).setCell ⟨gb558, 1, none⟩ (.int .i64 ((rd_T68 t549 x61_3).f1))).setCell ⟨gb558, 2, none⟩ (.int .i64 ((rd_T68 t549 x61_3).f2)))).cell? _ = some _ from hx559_0)); (try have hy559_1 := fun (n_ : Nat) => (show (((((w36.drewN n_).setCell ⟨gb558, 0, none⟩ (.string ((rd_T68 t549 x61_3).f0))).setCell ⟨gb558, 1, none⟩ (.int .i64 ((rd_T68 t549 x61_3).f1))).setCell ⟨gb558, 2, none⟩ (.int .i64 ((rd_T68 t549 x61_3).f2)))).cell? _ = some _ from hx559_1)); (try have hy559_2 := fun (n_ : Nat) => (show (((((w36.drewN n_).setCell ⟨gb558, 0, none⟩ (.string ((rd_T68 t549 x61_3).f0))).setCell ⟨gb558, 1, none⟩ (.int .i64 ((rd_T68 t549 x61_3).f1))).setCell ⟨gb558, 2, none⟩ (.int .i64 ((rd_T68 t549 x61_3).f2)))).cell? _ = some _ from hx559_2)); clear hn559_0; clear hn559_1; clear hn559_2; replace p559 := eq_true p559; replace q559 := eq_true q559)); try go_wp2_with (first | ((with_reducible refine gate_dst (N := 13) rfl ?_); (try (refine gate_guard (by rfl) ?_; dsimp only)); refine box_event ?hg (N := 13) ?hd (cs := #[.string (⟨#[]⟩ : ByteArray), .int .i64 0, .int .i64 0]) (t := 68) ?hr ?_; (case hd => rfl); (case hg => rfl); (case hr => first | (go_simp; done) | (go_simp; rfl)); intro gb558 hg w36 hbox hb; have n0_ := Aside0.mk (Kd.R_below (by (with_reducible repeat (first | apply Kd.R_alloc | apply Kd.R_drewN | apply Kd.R_drew)); exact HO_9.out) hb); have n1_ := Aside0.mk (Kd.R_below (Kd.R_elderB (by (with_reducible repeat (first | apply Kd.R_alloc | apply Kd.R_drewN | apply Kd.R_drew)); exact HO_59.out) gb558 (Nat.le_of_eq hg.symm)) hb); have n2_ := Aside0.mk (blk_below (g := gb546) (o := .cells #[.int .i64 a1_0, .int .i64 a1_1, .int .i64 a1_2, .int .i64 a1_3] 58 (0, 0)) (by (with_reducible repeat (first | refine blk_drewN ?_ _ | refine blk_drew ?_ | refine blk_alloc ?_ _)); exact BK546.out) hb); have n3_ := Aside0.mk (below_step (by repeat (first | (with_reducible first | exact HB.out | apply below_alloc | apply pw_below_drewN | apply below_drew1 | refine below_set ?_ GE546.out) | exact HB.out)) hb); have n4_ := Aside0.mk (hbox); have n5_ := Aside0.mk ((by rw [hg]; exact (below_size (by repeat (first | (with_reducible first | exact HB.out | apply below_alloc | apply pw_below_drewN | apply below_drew1 | refine below_set ?_ GE546.out) | exact HB.out))) : w.heap.size ≤ gb558)); have n6_ := Aside0.mk ((by rw [hg]; exact (below_size (by repeat (first | (with_reducible first | exact HB.out | apply below_alloc | apply pw_below_drewN | apply below_drew1 | refine below_set ?_ GE546.out) | exact HB.out))) : w.heap.size ≤ gb558)); have n7_ := Aside0.mk ((by rw [hg]; exact Nat.ne_of_lt (blk_lt (g := gb546) (o := .cells #[.int .i64 a1_0, .int .i64 a1_1, .int .i64 a1_2, .int .i64 a1_3] 58 (0, 0)) (by (with_reducible repeat (first | refine blk_drewN ?_ _ | refine blk_drew ?_ | refine blk_alloc ?_ _)); exact BK546.out)) : gb546 ≠ gb558)); have n8_ := Aside0.mk ((by rw [hg]; exact Nat.ne_of_gt (blk_lt (g := gb546) (o := .cells #[.int .i64 a1_0, .int .i64 a1_1, .int .i64 a1_2, .int .i64 a1_3] 58 (0, 0)) (by (with_reducible repeat (first | refine blk_drewN ?_ _ | refine blk_drew ?_ | refine blk_alloc ?_ _)); exact BK546.out)) : gb558 ≠ gb546)); clear HO_9; clear HO_59; clear BK546; clear HB; have HO_9 := n0_; have HO_59 := n1_; have BK546 := n2_; have HB := n3_; have BK558 := n4_; have GW558 := n5_; have GE558 := n6_; have NB546_558 := n7_; have NB558_546 := n8_; clear n0_ n1_ n2_ n3_ n4_ n5_ n6_ n7_ n8_; clear hb hbox hg; have hnb37 := NB558_546.out; have hnc37 := NB546_558.out; have hcz38_0 : w36.cell? ⟨gb558, 0, none⟩ = some (.string (⟨#[]⟩ : ByteArray)) := (blk_cell BK558.out 0).trans rfl; have hcz38_1 : w36.cell? ⟨gb558, 1, none⟩ = some (.int .i64 0) := (blk_cell BK558.out 1).trans rfl; have hcz38_2 : w36.cell? ⟨gb558, 2, none⟩ = some (.int .i64 0) := (blk_cell BK558.out 2).trans rfl; have hfz38_0 := blk_frozen BK558.out 0; have hfz38_1 := blk_frozen BK558.out 1; have hfz38_2 := blk_frozen BK558.out 2; obtain ⟨Ao39, co39, eo39⟩ := Kd.R_slice HO_9.out; subst eo39; have p559 : 0 ≤ (x61_3 : Int) := of_decide_eq_true (by first | (with_reducible assumption) | assumption); have q559 : x61_3 < (t553.length : Int) := of_decide_eq_true (by first | (with_reducible assumption) | assumption); obtain ⟨ad559, e559, hx559_0, hx559_1, hx559_2⟩ := at_T69 (Kd.R_reads' HO_9.out).2.2 x61_3 p559 q559; cases e559; have hn559_0 : ad559.block ≠ gb558 := Kd.own_blk (Kd.R_ne HO_9.out BK558.out (by decide)); have hn559_1 : ad559.block ≠ gb558 := Kd.own_blk (Kd.R_ne HO_9.out BK558.out (by decide)); have hn559_2 : ad559.block ≠ gb558 := Kd.own_blk (Kd.R_ne HO_9.out BK558.out (by decide)); replace hx559_0 := (cell_far (p := ⟨gb558, 0, none⟩) (by first | (rw [add_block]; exact hn559_0) | (show (Addr.add _ _).block ≠ _; rw [add_block]; exact hn559_0) | exact hn559_0) (.string ((rd_T68 t549 x61_3).f0))).trans hx559_0; replace hx559_1 := (cell_far (p := ⟨gb558, 0, none⟩) (by first | (rw [add_block]; exact hn559_0) | (show (Addr.add _ _).block ≠ _; rw [add_block]; exact hn559_0) | exact hn559_0) (.string ((rd_T68 t549 x61_3).f0))).trans hx559_1; replace hx559_2 := (cell_far (p := ⟨gb558, 0, none⟩) (by first | (rw [add_block]; exact hn559_0) | (show (Addr.add _ _).block ≠ _; rw [add_block]; exact hn559_0) | exact hn559_0) (.string ((rd_T68 t549 x61_3).f0))).trans hx559_2; replace hx559_0 := (cell_far (p := ⟨gb558, 1, none⟩) (by first | (rw [add_block]; exact hn559_1) | (show (Addr.add _ _).block ≠ _; rw [add_block]; exact hn559_1) | exact hn559_1) (.int .i64 ((rd_T68 t549 x61_3).f1))).trans hx559_0; replace hx559_1 := (cell_far (p := ⟨gb558, 1, none⟩) (by first | (rw [add_block]; exact hn559_1) | (show (Addr.add _ _).block ≠ _; rw [add_block]; exact hn559_1) | exact hn559_1) (.int .i64 ((rd_T68 t549 x61_3).f1))).trans hx559_1; replace hx559_2 := (cell_far (p := ⟨gb558, 1, none⟩) (by first | (rw [add_block]; exact hn559_1) | (show (Addr.add _ _).block ≠ _; rw [add_block]; exact hn559_1) | exact hn559_1) (.int .i64 ((rd_T68 t549 x61_3).f1))).trans hx559_2; replace hx559_0 := (cell_far (p := ⟨gb558, 2, none⟩) (by first | (rw [add_block]; exact hn559_2) | (show (Addr.add _ _).block ≠ _; rw [add_block]; exact hn559_2) | exact hn559_2) (.int .i64 ((rd_T68 t549 x61_3).f2))).trans hx559_0; replace hx559_1 := (cell_far (p := ⟨gb558, 2, none⟩) (by first | (rw [add_block]; exact hn559_2) | (show (Addr.add _ _).block ≠ _; rw [add_block]; exact hn559_2) | exact hn559_2) (.int .i64 ((rd_T68 t549 x61_3).f2))).trans hx559_1; replace hx559_2 := (cell_far (p := ⟨gb558, 2, none⟩) (by first | (rw [add_block]; exact hn559_2) | (show (Addr.add _ _).block ≠ _; rw [add_block]; exact hn559_2) | exact hn559_2) (.int .i64 ((rd_T68 t549 x61_3).f2))).trans hx559_2; (try have hy559_0 := fun (n_ : Nat) => (show (((((w36.drewN n_).setCell ⟨gb558, 0, none⟩ (.string ((rd_T68 t549 x61_3).f0))).setCell ⟨gb558, 1, none⟩ (.int .i64 ((rd_T68 t549 x61_3).f1))).setCell ⟨gb558, 2, none⟩ (.int .i64 ((rd_T68 t549 x61_3).f2)))).cell? _ = some _ from hx559_0)); (try have hy559_1 := fun (n_ : Nat) => (show (((((w36.drewN n_).setCell ⟨gb558, 0, none⟩ (.string ((rd_T68 t549 x61_3).f0))).setCell ⟨gb558, 1, none⟩ (.int .i64 ((rd_T68 t549 x61_3).f1))).setCell ⟨gb558, 2, none⟩ (.int .i64 ((rd_T68 t549 x61_3).f2)))).cell? _ = some _ from hx559_1)); (try have hy559_2 := fun (n_ : Nat) => (show (((((w36.drewN n_).setCell ⟨gb558, 0, none⟩ (.string ((rd_T68 t549 x61_3).f0))).setCell ⟨gb558, 1, none⟩ (.int .i64 ((rd_T68 t549 x61_3).f1))).setCell ⟨gb558, 2, none⟩ (.int .i64 ((rd_T68 t549 x61_3).f2)))).cell? _ = some _ from hx559_2)); clear hn559_0; clear hn559_1; clear hn559_2; replace p559 := eq_true p559; replace q559 := eq_true q559)))
               go_ret
               exact ⟨by first | rfl | (simp [errW_none, errW_some] <;> rfl) | (simp [*, errW_none, errW_some] <;> rfl), by repeat (first | (with_reducible first | exact HB.out | apply below_alloc | apply pw_below_drewN | apply below_drew1 | refine below_set ?_ GE546.out | refine below_set ?_ GE558.out) | exact HB.out)⟩
              ·rw [if_neg c35] at H
               have c35b0 : decide (((rd_T68 t549 x61_3).f2) < 0) = false := decide_eq_false c35
               clear c35
               by_cases c40 : ((rd_T68 t549 x61_3).f2) > ((rd_T68 t549 x61_3).f1)
               ·rw [if_pos c40] at H
                have c40b0 : decide (((rd_T68 t549 x61_3).f1) < ((rd_T68 t549 x61_3).f2)) = true := decide_eq_true c40
                clear c40
                obtain rfl := Option.some.inj H
                have p557 : 0 ≤ (x61_3 : Int) := of_decide_eq_true (by first | (with_reducible assumption) | assumption)
                have q557 : x61_3 < (t549.length : Int) := of_decide_eq_true (by first | (with_reducible assumption) | assumption)
                obtain ⟨ad557, e557, hx557_0, hx557_1, hx557_2⟩ := at_T68 (Kd.R_reads' HO_59.out).2.2 x61_3 p557 q557
                cases e557
                replace p557 := eq_true p557
                replace q557 := eq_true q557
                go_wp2_with (first | ((with_reducible refine gate_dst (N := 13) rfl ?_); (try (refine gate_guard (by rfl) ?_; dsimp only)); refine box_event ?hg (N := 13) ?hd (cs := #[.string (⟨#[]⟩ : ByteArray), .int .i64 0, .int .i64 0]) (t := 68) ?hr ?_; (case hd => rfl); (case hg => rfl); (case hr => first | (go_simp; done) | (go_simp; rfl)); intro gb558 hg w41 hbox hb; have n0_ := Aside0.mk (Kd.R_below (by (with_reducible repeat (first | apply Kd.R_alloc | apply Kd.R_drewN | apply Kd.R_drew)); exact HO_9.out) hb); have n1_ := Aside0.mk (Kd.R_below (Kd.R_elderB (by (with_reducible repeat (first | apply Kd.R_alloc | apply Kd.R_drewN | apply Kd.R_drew)); exact HO_59.out) gb558 (Nat.le_of_eq hg.symm)) hb); have n2_ := Aside0.mk (blk_below (g := gb546) (o := .cells #[.int .i64 a1_0, .int .i64 a1_1, .int .i64 a1_2, .int .i64 a1_3] 58 (0, 0)) (by (with_reducible repeat (first | refine blk_drewN ?_ _ | refine blk_drew ?_ | refine blk_alloc ?_ _)); exact BK546.out) hb); have n3_ := Aside0.mk (below_step (by repeat (first | (with_reducible first | exact HB.out | apply below_alloc | apply pw_below_drewN | apply below_drew1 | refine below_set ?_ GE546.out) | exact HB.out)) hb); have n4_ := Aside0.mk (hbox); have n5_ := Aside0.mk ((by rw [hg]; exact (below_size (by repeat (first | (with_reducible first | exact HB.out | apply below_alloc | apply pw_below_drewN | apply below_drew1 | refine below_set ?_ GE546.out) | exact HB.out))) : w.heap.size ≤ gb558)); have n6_ := Aside0.mk ((by rw [hg]; exact (below_size (by repeat (first | (with_reducible first | exact HB.out | apply below_alloc | apply pw_below_drewN | apply below_drew1 | refine below_set ?_ GE546.out) | exact HB.out))) : w.heap.size ≤ gb558)); have n7_ := Aside0.mk ((by rw [hg]; exact Nat.ne_of_lt (blk_lt (g := gb546) (o := .cells #[.int .i64 a1_0, .int .i64 a1_1, .int .i64 a1_2, .int .i64 a1_3] 58 (0, 0)) (by (with_reducible repeat (first | refine blk_drewN ?_ _ | refine blk_drew ?_ | refine blk_alloc ?_ _)); exact BK546.out)) : gb546 ≠ gb558)); have n8_ := Aside0.mk ((by rw [hg]; exact Nat.ne_of_gt (blk_lt (g := gb546) (o := .cells #[.int .i64 a1_0, .int .i64 a1_1, .int .i64 a1_2, .int .i64 a1_3] 58 (0, 0)) (by (with_reducible repeat (first | refine blk_drewN ?_ _ | refine blk_drew ?_ | refine blk_alloc ?_ _)); exact BK546.out)) : gb558 ≠ gb546)); clear HO_9; clear HO_59; clear BK546; clear HB; have HO_9 := n0_; have HO_59 := n1_; have BK546 := n2_; have HB := n3_; have BK558 := n4_; have GW558 := n5_; have GE558 := n6_; have NB546_558 := n7_; have NB558_546 := n8_; clear n0_ n1_ n2_ n3_ n4_ n5_ n6_ n7_ n8_; clear hb hbox hg; have hnb42 := NB558_546.out; have hnc42 := NB546_558.out; have hcz43_0 : w41.cell? ⟨gb558, 0, none⟩ = some (.string (⟨#[]⟩ : ByteArray)) := (blk_cell BK558.out 0).trans rfl; have hcz43_1 : w41.cell? ⟨gb558, 1, none⟩ = some (.int .i64 0) := (blk_cell BK558.out 1).trans rfl; have hcz43_2 : w41.cell? ⟨gb558, 2, none⟩ = some (.int .i64 0) := (blk_cell BK558.out 2).trans rfl; have hfz43_0 := blk_frozen BK558.out 0; have hfz43_1 := blk_frozen BK558.out 1; have hfz43_2 := blk_frozen BK558.out 2; obtain ⟨Ao44, co44, eo44⟩ := Kd.R_slice HO_9.out; subst eo44; have p559 : 0 ≤ (x61_3 : Int) := of_decide_eq_true (by first | (with_reducible assumption) | assumption); have q559 : x61_3 < (t553.length : Int) := of_decide_eq_true (by first | (with_reducible assumption) | assumption); obtain ⟨ad559, e559, hx559_0, hx559_1, hx559_2⟩ := at_T69 (Kd.R_reads' HO_9.out).2.2 x61_3 p559 q559; cases e559; have hn559_0 : ad559.block ≠ gb558 := Kd.own_blk (Kd.R_ne HO_9.out BK558.out (by decide)); have hn559_1 : ad559.block ≠ gb558 := Kd.own_blk (Kd.R_ne HO_9.out BK558.out (by decide)); have hn559_2 : ad559.block ≠ gb558 := Kd.own_blk (Kd.R_ne HO_9.out BK558.out (by decide)); replace hx559_0 := (cell_far (p := ⟨gb558, 0, none⟩) (by first | (rw [add_block]; exact hn559_0) | (show (Addr.add _ _).block ≠ _; rw [add_block]; exact hn559_0) | exact hn559_0) (.string ((rd_T68 t549 x61_3).f0))).trans hx559_0; replace hx559_1 := (cell_far (p := ⟨gb558, 0, none⟩) (by first | (rw [add_block]; exact hn559_0) | (show (Addr.add _ _).block ≠ _; rw [add_block]; exact hn559_0) | exact hn559_0) (.string ((rd_T68 t549 x61_3).f0))).trans hx559_1; replace hx559_2 := (cell_far (p := ⟨gb558, 0, none⟩) (by first | (rw [add_block]; exact hn559_0) | (show (Addr.add _ _).block ≠ _; rw [add_block]; exact hn559_0) | exact hn559_0) (.string ((rd_T68 t549 x61_3).f0))).trans hx559_2; replace hx559_0 := (cell_far (p := ⟨gb558, 1, none⟩) (by first | (rw [add_block]; exact hn559_1) | (show (Addr.add _ _).block ≠ _; rw [add_block]; exact hn559_1) | exact hn559_1) (.int .i64 ((rd_T68 t549 x61_3).f1))).trans hx559_0; replace hx559_1 := (cell_far (p := ⟨gb558, 1, none⟩) (by first | (rw [add_block]; exact hn559_1) | (show (Addr.add _ _).block ≠ _; rw [add_block]; exact hn559_1) | exact hn559_1) (.int .i64 ((rd_T68 t549 x61_3).f1))).trans hx559_1; replace hx559_2 := (cell_far (p := ⟨gb558, 1, none⟩) (by first | (rw [add_block]; exact hn559_1) | (show (Addr.add _ _).block ≠ _; rw [add_block]; exact hn559_1) | exact hn559_1) (.int .i64 ((rd_T68 t549 x61_3).f1))).trans hx559_2; replace hx559_0 := (cell_far (p := ⟨gb558, 2, none⟩) (by first | (rw [add_block]; exact hn559_2) | (show (Addr.add _ _).block ≠ _; rw [add_block]; exact hn559_2) | exact hn559_2) (.int .i64 ((rd_T68 t549 x61_3).f2))).trans hx559_0; replace hx559_1 := (cell_far (p := ⟨gb558, 2, none⟩) (by first | (rw [add_block]; exact hn559_2) | (show (Addr.add _ _).block ≠ _; rw [add_block]; exact hn559_2) | exact hn559_2) (.int .i64 ((rd_T68 t549 x61_3).f2))).trans hx559_1; replace hx559_2 := (cell_far (p := ⟨gb558, 2, none⟩) (by first | (rw [add_block]; exact hn559_2) | (show (Addr.add _ _).block ≠ _; rw [add_block]; exact hn559_2) | exact hn559_2) (.int .i64 ((rd_T68 t549 x61_3).f2))).trans hx559_2; (try have hy559_0 := fun (n_ : Nat) => (show (((((w41.drewN n_).setCell ⟨gb558, 0, none⟩ (.string ((rd_T68 t549 x61_3).f0))).setCell ⟨gb558, 1, none⟩ (.int .i64 ((rd_T68 t549 x61_3).f1))).setCell ⟨gb558, 2, none⟩ (.int .i64 ((rd_T68 t549 x61_3).f2)))).cell? _ = some _ from hx559_0)); (try have hy559_1 := fun (n_ : Nat) => (show (((((w41.drewN n_).setCell ⟨gb558, 0, none⟩ (.string ((rd_T68 t549 x61_3).f0))).setCell ⟨gb558, 1, none⟩ (.int .i64 ((rd_T68 t549 x61_3).f1))).setCell ⟨gb558, 2, none⟩ (.int .i64 ((rd_T68 t549 x61_3).f2)))).cell? _ = some _ from hx559_1)); (try have hy559_2 := fun (n_ : Nat) => (show (((((w41.drewN n_).setCell ⟨gb558, 0, none⟩ (.string ((rd_T68 t549 x61_3).f0))).setCell ⟨gb558, 1, none⟩ (.int .i64 ((rd_T68 t549 x61_3).f1))).setCell ⟨gb558, 2, none⟩ (.int .i64 ((rd_T68 t549 x61_3).f2)))).cell? _ = some _ from hx559_2)); clear hn559_0; clear hn559_1; clear hn559_2; replace p559 := eq_true p559; replace q559 := eq_true q559))
                repeat (go_quiet (first | ((with_reducible refine gate_dst (N := 13) rfl ?_); (try (refine gate_guard (by rfl) ?_; dsimp only)); refine box_event ?hg (N := 13) ?hd (cs := #[.string (⟨#[]⟩ : ByteArray), .int .i64 0, .int .i64 0]) (t := 68) ?hr ?_; (case hd => rfl); (case hg => rfl); (case hr => first | (go_simp; done) | (go_simp; rfl)); intro gb558 hg w41 hbox hb; have n0_ := Aside0.mk (Kd.R_below (by (with_reducible repeat (first | apply Kd.R_alloc | apply Kd.R_drewN | apply Kd.R_drew)); exact HO_9.out) hb); have n1_ := Aside0.mk (Kd.R_below (Kd.R_elderB (by (with_reducible repeat (first | apply Kd.R_alloc | apply Kd.R_drewN | apply Kd.R_drew)); exact HO_59.out) gb558 (Nat.le_of_eq hg.symm)) hb); have n2_ := Aside0.mk (blk_below (g := gb546) (o := .cells #[.int .i64 a1_0, .int .i64 a1_1, .int .i64 a1_2, .int .i64 a1_3] 58 (0, 0)) (by (with_reducible repeat (first | refine blk_drewN ?_ _ | refine blk_drew ?_ | refine blk_alloc ?_ _)); exact BK546.out) hb); have n3_ := Aside0.mk (below_step (by repeat (first | (with_reducible first | exact HB.out | apply below_alloc | apply pw_below_drewN | apply below_drew1 | refine below_set ?_ GE546.out) | exact HB.out)) hb); have n4_ := Aside0.mk (hbox); have n5_ := Aside0.mk ((by rw [hg]; exact (below_size (by repeat (first | (with_reducible first | exact HB.out | apply below_alloc | apply pw_below_drewN | apply below_drew1 | refine below_set ?_ GE546.out) | exact HB.out))) : w.heap.size ≤ gb558)); have n6_ := Aside0.mk ((by rw [hg]; exact (below_size (by repeat (first | (with_reducible first | exact HB.out | apply below_alloc | apply pw_below_drewN | apply below_drew1 | refine below_set ?_ GE546.out) | exact HB.out))) : w.heap.size ≤ gb558)); have n7_ := Aside0.mk ((by rw [hg]; exact Nat.ne_of_lt (blk_lt (g := gb546) (o := .cells #[.int .i64 a1_0, .int .i64 a1_1, .int .i64 a1_2, .int .i64 a1_3] 58 (0, 0)) (by (with_reducible repeat (first | refine blk_drewN ?_ _ | refine blk_drew ?_ | refine blk_alloc ?_ _)); exact BK546.out)) : gb546 ≠ gb558)); have n8_ := Aside0.mk ((by rw [hg]; exact Nat.ne_of_gt (blk_lt (g := gb546) (o := .cells #[.int .i64 a1_0, .int .i64 a1_1, .int .i64 a1_2, .int .i64 a1_3] 58 (0, 0)) (by (with_reducible repeat (first | refine blk_drewN ?_ _ | refine blk_drew ?_ | refine blk_alloc ?_ _)); exact BK546.out)) : gb558 ≠ gb546)); clear HO_9; clear HO_59; clear BK546; clear HB; have HO_9 := n0_; have HO_59 := n1_; have BK546 := n2_; have HB := n3_; have BK558 := n4_; have GW558 := n5_; have GE558 := n6_; have NB546_558 := n7_; have NB558_546 := n8_; clear n0_ n1_ n2_ n3_ n4_ n5_ n6_ n7_ n8_; clear hb hbox hg; have hnb42 := NB558_546.out; have hnc42 := NB546_558.out; have hcz43_0 : w41.cell? ⟨gb558, 0, none⟩ = some (.string (⟨#[]⟩ : ByteArray)) := (blk_cell BK558.out 0).trans rfl; have hcz43_1 : w41.cell? ⟨gb558, 1, none⟩ = some (.int .i64 0) := (blk_cell BK558.out 1).trans rfl; have hcz43_2 : w41.cell? ⟨gb558, 2, none⟩ = some (.int .i64 0) := (blk_cell BK558.out 2).trans rfl; have hfz43_0 := blk_frozen BK558.out 0; have hfz43_1 := blk_frozen BK558.out 1; have hfz43_2 := blk_frozen BK558.out 2; obtain ⟨Ao44, co44, eo44⟩ := Kd.R_slice HO_9.out; subst eo44; have p559 : 0 ≤ (x61_3 : Int) := of_decide_eq_true (by first | (with_reducible assumption) | assumption); have q559 : x61_3 < (t553.length : Int) := of_decide_eq_true (by first | (with_reducible assumption) | assumption); obtain ⟨ad559, e559, hx559_0, hx559_1, hx559_2⟩ := at_T69 (Kd.R_reads' HO_9.out).2.2 x61_3 p559 q559; cases e559; have hn559_0 : ad559.block ≠ gb558 := Kd.own_blk (Kd.R_ne HO_9.out BK558.out (by decide)); have hn559_1 : ad559.block ≠ gb558 := Kd.own_blk (Kd.R_ne HO_9.out BK558.out (by decide)); have hn559_2 : ad559.block ≠ gb558 := Kd.own_blk (Kd.R_ne HO_9.out BK558.out (by decide)); replace hx559_0 := (cell_far (p := ⟨gb558, 0, none⟩) (by first | (rw [add_block]; exact hn559_0) | (show (Addr.add _ _).block ≠ _; rw [add_block]; exact hn559_0) | exact hn559_0) (.string ((rd_T68 t549 x61_3).f0))).trans hx559_0; replace hx559_1 := (cell_far (p := ⟨gb558, 0, none⟩) (by first | (rw [add_block]; exact hn559_0) | (show (Addr.add _ _).block ≠ _; rw [add_block]; exact hn559_0) | exact hn559_0) (.string ((rd_T68 t549 x61_3).f0))).trans hx559_1; replace hx559_2 := (cell_far (p := ⟨gb558, 0, none⟩) (by first | (rw [add_block]; exact hn559_0) | (show (Addr.add _ _).block ≠ _; rw [add_block]; exact hn559_0) | exact hn559_0) (.string ((rd_T68 t549 x61_3).f0))).trans hx559_2; replace hx559_0 := (cell_far (p := ⟨gb558, 1, none⟩) (by first | (rw [add_block]; exact hn559_1) | (show (Addr.add _ _).block ≠ _; rw [add_block]; exact hn559_1) | exact hn559_1) (.int .i64 ((rd_T68 t549 x61_3).f1))).trans hx559_0; replace hx559_1 := (cell_far (p := ⟨gb558, 1, none⟩) (by first | (rw [add_block]; exact hn559_1) | (show (Addr.add _ _).block ≠ _; rw [add_block]; exact hn559_1) | exact hn559_1) (.int .i64 ((rd_T68 t549 x61_3).f1))).trans hx559_1; replace hx559_2 := (cell_far (p := ⟨gb558, 1, none⟩) (by first | (rw [add_block]; exact hn559_1) | (show (Addr.add _ _).block ≠ _; rw [add_block]; exact hn559_1) | exact hn559_1) (.int .i64 ((rd_T68 t549 x61_3).f1))).trans hx559_2; replace hx559_0 := (cell_far (p := ⟨gb558, 2, none⟩) (by first | (rw [add_block]; exact hn559_2) | (show (Addr.add _ _).block ≠ _; rw [add_block]; exact hn559_2) | exact hn559_2) (.int .i64 ((rd_T68 t549 x61_3).f2))).trans hx559_0; replace hx559_1 := (cell_far (p := ⟨gb558, 2, none⟩) (by first | (rw [add_block]; exact hn559_2) | (show (Addr.add _ _).block ≠ _; rw [add_block]; exact hn559_2) | exact hn559_2) (.int .i64 ((rd_T68 t549 x61_3).f2))).trans hx559_1; replace hx559_2 := (cell_far (p := ⟨gb558, 2, none⟩) (by first | (rw [add_block]; exact hn559_2) | (show (Addr.add _ _).block ≠ _; rw [add_block]; exact hn559_2) | exact hn559_2) (.int .i64 ((rd_T68 t549 x61_3).f2))).trans hx559_2; (try have hy559_0 := fun (n_ : Nat) => (show (((((w41.drewN n_).setCell ⟨gb558, 0, none⟩ (.string ((rd_T68 t549 x61_3).f0))).setCell ⟨gb558, 1, none⟩ (.int .i64 ((rd_T68 t549 x61_3).f1))).setCell ⟨gb558, 2, none⟩ (.int .i64 ((rd_T68 t549 x61_3).f2)))).cell? _ = some _ from hx559_0)); (try have hy559_1 := fun (n_ : Nat) => (show (((((w41.drewN n_).setCell ⟨gb558, 0, none⟩ (.string ((rd_T68 t549 x61_3).f0))).setCell ⟨gb558, 1, none⟩ (.int .i64 ((rd_T68 t549 x61_3).f1))).setCell ⟨gb558, 2, none⟩ (.int .i64 ((rd_T68 t549 x61_3).f2)))).cell? _ = some _ from hx559_1)); (try have hy559_2 := fun (n_ : Nat) => (show (((((w41.drewN n_).setCell ⟨gb558, 0, none⟩ (.string ((rd_T68 t549 x61_3).f0))).setCell ⟨gb558, 1, none⟩ (.int .i64 ((rd_T68 t549 x61_3).f1))).setCell ⟨gb558, 2, none⟩ (.int .i64 ((rd_T68 t549 x61_3).f2)))).cell? _ = some _ from hx559_2)); clear hn559_0; clear hn559_1; clear hn559_2; replace p559 := eq_true p559; replace q559 := eq_true q559)); try go_wp2_with (first | ((with_reducible refine gate_dst (N := 13) rfl ?_); (try (refine gate_guard (by rfl) ?_; dsimp only)); refine box_event ?hg (N := 13) ?hd (cs := #[.string (⟨#[]⟩ : ByteArray), .int .i64 0, .int .i64 0]) (t := 68) ?hr ?_; (case hd => rfl); (case hg => rfl); (case hr => first | (go_simp; done) | (go_simp; rfl)); intro gb558 hg w41 hbox hb; have n0_ := Aside0.mk (Kd.R_below (by (with_reducible repeat (first | apply Kd.R_alloc | apply Kd.R_drewN | apply Kd.R_drew)); exact HO_9.out) hb); have n1_ := Aside0.mk (Kd.R_below (Kd.R_elderB (by (with_reducible repeat (first | apply Kd.R_alloc | apply Kd.R_drewN | apply Kd.R_drew)); exact HO_59.out) gb558 (Nat.le_of_eq hg.symm)) hb); have n2_ := Aside0.mk (blk_below (g := gb546) (o := .cells #[.int .i64 a1_0, .int .i64 a1_1, .int .i64 a1_2, .int .i64 a1_3] 58 (0, 0)) (by (with_reducible repeat (first | refine blk_drewN ?_ _ | refine blk_drew ?_ | refine blk_alloc ?_ _)); exact BK546.out) hb); have n3_ := Aside0.mk (below_step (by repeat (first | (with_reducible first | exact HB.out | apply below_alloc | apply pw_below_drewN | apply below_drew1 | refine below_set ?_ GE546.out) | exact HB.out)) hb); have n4_ := Aside0.mk (hbox); have n5_ := Aside0.mk ((by rw [hg]; exact (below_size (by repeat (first | (with_reducible first | exact HB.out | apply below_alloc | apply pw_below_drewN | apply below_drew1 | refine below_set ?_ GE546.out) | exact HB.out))) : w.heap.size ≤ gb558)); have n6_ := Aside0.mk ((by rw [hg]; exact (below_size (by repeat (first | (with_reducible first | exact HB.out | apply below_alloc | apply pw_below_drewN | apply below_drew1 | refine below_set ?_ GE546.out) | exact HB.out))) : w.heap.size ≤ gb558)); have n7_ := Aside0.mk ((by rw [hg]; exact Nat.ne_of_lt (blk_lt (g := gb546) (o := .cells #[.int .i64 a1_0, .int .i64 a1_1, .int .i64 a1_2, .int .i64 a1_3] 58 (0, 0)) (by (with_reducible repeat (first | refine blk_drewN ?_ _ | refine blk_drew ?_ | refine blk_alloc ?_ _)); exact BK546.out)) : gb546 ≠ gb558)); have n8_ := Aside0.mk ((by rw [hg]; exact Nat.ne_of_gt (blk_lt (g := gb546) (o := .cells #[.int .i64 a1_0, .int .i64 a1_1, .int .i64 a1_2, .int .i64 a1_3] 58 (0, 0)) (by (with_reducible repeat (first | refine blk_drewN ?_ _ | refine blk_drew ?_ | refine blk_alloc ?_ _)); exact BK546.out)) : gb558 ≠ gb546)); clear HO_9; clear HO_59; clear BK546; clear HB; have HO_9 := n0_; have HO_59 := n1_; have BK546 := n2_; have HB := n3_; have BK558 := n4_; have GW558 := n5_; have GE558 := n6_; have NB546_558 := n7_; have NB558_546 := n8_; clear n0_ n1_ n2_ n3_ n4_ n5_ n6_ n7_ n8_; clear hb hbox hg; have hnb42 := NB558_546.out; have hnc42 := NB546_558.out; have hcz43_0 : w41.cell? ⟨gb558, 0, none⟩ = some (.string (⟨#[]⟩ : ByteArray)) := (blk_cell BK558.out 0).trans rfl; have hcz43_1 : w41.cell? ⟨gb558, 1, none⟩ = some (.int .i64 0) := (blk_cell BK558.out 1).trans rfl; have hcz43_2 : w41.cell? ⟨gb558, 2, none⟩ = some (.int .i64 0) := (blk_cell BK558.out 2).trans rfl; have hfz43_0 := blk_frozen BK558.out 0; have hfz43_1 := blk_frozen BK558.out 1; have hfz43_2 := blk_frozen BK558.out 2; obtain ⟨Ao44, co44, eo44⟩ := Kd.R_slice HO_9.out; subst eo44; have p559 : 0 ≤ (x61_3 : Int) := of_decide_eq_true (by first | (with_reducible assumption) | assumption); have q559 : x61_3 < (t553.length : Int) := of_decide_eq_true (by first | (with_reducible assumption) | assumption); obtain ⟨ad559, e559, hx559_0, hx559_1, hx559_2⟩ := at_T69 (Kd.R_reads' HO_9.out).2.2 x61_3 p559 q559; cases e559; have hn559_0 : ad559.block ≠ gb558 := Kd.own_blk (Kd.R_ne HO_9.out BK558.out (by decide)); have hn559_1 : ad559.block ≠ gb558 := Kd.own_blk (Kd.R_ne HO_9.out BK558.out (by decide)); have hn559_2 : ad559.block ≠ gb558 := Kd.own_blk (Kd.R_ne HO_9.out BK558.out (by decide)); replace hx559_0 := (cell_far (p := ⟨gb558, 0, none⟩) (by first | (rw [add_block]; exact hn559_0) | (show (Addr.add _ _).block ≠ _; rw [add_block]; exact hn559_0) | exact hn559_0) (.string ((rd_T68 t549 x61_3).f0))).trans hx559_0; replace hx559_1 := (cell_far (p := ⟨gb558, 0, none⟩) (by first | (rw [add_block]; exact hn559_0) | (show (Addr.add _ _).block ≠ _; rw [add_block]; exact hn559_0) | exact hn559_0) (.string ((rd_T68 t549 x61_3).f0))).trans hx559_1; replace hx559_2 := (cell_far (p := ⟨gb558, 0, none⟩) (by first | (rw [add_block]; exact hn559_0) | (show (Addr.add _ _).block ≠ _; rw [add_block]; exact hn559_0) | exact hn559_0) (.string ((rd_T68 t549 x61_3).f0))).trans hx559_2; replace hx559_0 := (cell_far (p := ⟨gb558, 1, none⟩) (by first | (rw [add_block]; exact hn559_1) | (show (Addr.add _ _).block ≠ _; rw [add_block]; exact hn559_1) | exact hn559_1) (.int .i64 ((rd_T68 t549 x61_3).f1))).trans hx559_0; replace hx559_1 := (cell_far (p := ⟨gb558, 1, none⟩) (by first | (rw [add_block]; exact hn559_1) | (show (Addr.add _ _).block ≠ _; rw [add_block]; exact hn559_1) | exact hn559_1) (.int .i64 ((rd_T68 t549 x61_3).f1))).trans hx559_1; replace hx559_2 := (cell_far (p := ⟨gb558, 1, none⟩) (by first | (rw [add_block]; exact hn559_1) | (show (Addr.add _ _).block ≠ _; rw [add_block]; exact hn559_1) | exact hn559_1) (.int .i64 ((rd_T68 t549 x61_3).f1))).trans hx559_2; replace hx559_0 := (cell_far (p := ⟨gb558, 2, none⟩) (by first | (rw [add_block]; exact hn559_2) | (show (Addr.add _ _).block ≠ _; rw [add_block]; exact hn559_2) | exact hn559_2) (.int .i64 ((rd_T68 t549 x61_3).f2))).trans hx559_0; replace hx559_1 := (cell_far (p := ⟨gb558, 2, none⟩) (by first | (rw [add_block]; exact hn559_2) | (show (Addr.add _ _).block ≠ _; rw [add_block]; exact hn559_2) | exact hn559_2) (.int .i64 ((rd_T68 t549 x61_3).f2))).trans hx559_1; replace hx559_2 := (cell_far (p := ⟨gb558, 2, none⟩) (by first | (rw [add_block]; exact hn559_2) | (show (Addr.add _ _).block ≠ _; rw [add_block]; exact hn559_2) | exact hn559_2) (.int .i64 ((rd_T68 t549 x61_3).f2))).trans hx559_2; (try have hy559_0 := fun (n_ : Nat) => (show (((((w41.drewN n_).setCell ⟨gb558, 0, none⟩ (.string ((rd_T68 t549 x61_3).f0))).setCell ⟨gb558, 1, none⟩ (.int .i64 ((rd_T68 t549 x61_3).f1))).setCell ⟨gb558, 2, none⟩ (.int .i64 ((rd_T68 t549 x61_3).f2)))).cell? _ = some _ from hx559_0)); (try have hy559_1 := fun (n_ : Nat) => (show (((((w41.drewN n_).setCell ⟨gb558, 0, none⟩ (.string ((rd_T68 t549 x61_3).f0))).setCell ⟨gb558, 1, none⟩ (.int .i64 ((rd_T68 t549 x61_3).f1))).setCell ⟨gb558, 2, none⟩ (.int .i64 ((rd_T68 t549 x61_3).f2)))).cell? _ = some _ from hx559_1)); (try have hy559_2 := fun (n_ : Nat) => (show (((((w41.drewN n_).setCell ⟨gb558, 0, none⟩ (.string ((rd_T68 t549 x61_3).f0))).setCell ⟨gb558, 1, none⟩ (.int .i64 ((rd_T68 t549 x61_3).f1))).setCell ⟨gb558, 2, none⟩ (.int .i64 ((rd_T68 t549 x61_3).f2)))).cell? _ = some _ from hx559_2)); clear hn559_0; clear hn559_1; clear hn559_2; replace p559 := eq_true p559; replace q559 := eq_true q559)))
                go_ret
                exact ⟨by first | rfl | (simp [errW_none, errW_some] <;> rfl) | (simp [*, errW_none, errW_some] <;> rfl), by repeat (first | (with_reducible first | exact HB.out | apply below_alloc | apply pw_below_drewN | apply below_drew1 | refine below_set ?_ GE546.out | refine below_set ?_ GE558.out) | exact HB.out)⟩
               ·rw [if_neg c40] at H
                have c40b0 : decide (((rd_T68 t549 x61_3).f1) < ((rd_T68 t549 x61_3).f2)) = false := decide_eq_false c40
                clear c40
                have H' := Aside0.mk H
                clear H
                have p557 : 0 ≤ (x61_3 : Int) := of_decide_eq_true (by first | (with_reducible assumption) | assumption)
                have q557 : x61_3 < (t549.length : Int) := of_decide_eq_true (by first | (with_reducible assumption) | assumption)
                obtain ⟨ad557, e557, hx557_0, hx557_1, hx557_2⟩ := at_T68 (Kd.R_reads' HO_59.out).2.2 x61_3 p557 q557
                cases e557
                replace p557 := eq_true p557
                replace q557 := eq_true q557
                go_wp2_with (first | ((with_reducible refine gate_dst (N := 13) rfl ?_); (try (refine gate_guard (by rfl) ?_; dsimp only)); refine box_event ?hg (N := 13) ?hd (cs := #[.string (⟨#[]⟩ : ByteArray), .int .i64 0, .int .i64 0]) (t := 68) ?hr ?_; (case hd => rfl); (case hg => rfl); (case hr => first | (go_simp; done) | (go_simp; rfl)); intro gb558 hg w45 hbox hb; have n0_ := Aside0.mk (Kd.R_below (by (with_reducible repeat (first | apply Kd.R_alloc | apply Kd.R_drewN | apply Kd.R_drew)); exact HO_9.out) hb); have n1_ := Aside0.mk (Kd.R_below (Kd.R_elderB (by (with_reducible repeat (first | apply Kd.R_alloc | apply Kd.R_drewN | apply Kd.R_drew)); exact HO_59.out) gb558 (Nat.le_of_eq hg.symm)) hb); have n2_ := Aside0.mk (blk_below (g := gb546) (o := .cells #[.int .i64 a1_0, .int .i64 a1_1, .int .i64 a1_2, .int .i64 a1_3] 58 (0, 0)) (by (with_reducible repeat (first | refine blk_drewN ?_ _ | refine blk_drew ?_ | refine blk_alloc ?_ _)); exact BK546.out) hb); have n3_ := Aside0.mk (below_step (by repeat (first | (with_reducible first | exact HB.out | apply below_alloc | apply pw_below_drewN | apply below_drew1 | refine below_set ?_ GE546.out) | exact HB.out)) hb); have n4_ := Aside0.mk (hbox); have n5_ := Aside0.mk ((by rw [hg]; exact (below_size (by repeat (first | (with_reducible first | exact HB.out | apply below_alloc | apply pw_below_drewN | apply below_drew1 | refine below_set ?_ GE546.out) | exact HB.out))) : w.heap.size ≤ gb558)); have n6_ := Aside0.mk ((by rw [hg]; exact (below_size (by repeat (first | (with_reducible first | exact HB.out | apply below_alloc | apply pw_below_drewN | apply below_drew1 | refine below_set ?_ GE546.out) | exact HB.out))) : w.heap.size ≤ gb558)); have n7_ := Aside0.mk ((by rw [hg]; exact Nat.ne_of_lt (blk_lt (g := gb546) (o := .cells #[.int .i64 a1_0, .int .i64 a1_1, .int .i64 a1_2, .int .i64 a1_3] 58 (0, 0)) (by (with_reducible repeat (first | refine blk_drewN ?_ _ | refine blk_drew ?_ | refine blk_alloc ?_ _)); exact BK546.out)) : gb546 ≠ gb558)); have n8_ := Aside0.mk ((by rw [hg]; exact Nat.ne_of_gt (blk_lt (g := gb546) (o := .cells #[.int .i64 a1_0, .int .i64 a1_1, .int .i64 a1_2, .int .i64 a1_3] 58 (0, 0)) (by (with_reducible repeat (first | refine blk_drewN ?_ _ | refine blk_drew ?_ | refine blk_alloc ?_ _)); exact BK546.out)) : gb558 ≠ gb546)); clear HO_9; clear HO_59; clear BK546; clear HB; have HO_9 := n0_; have HO_59 := n1_; have BK546 := n2_; have HB := n3_; have BK558 := n4_; have GW558 := n5_; have GE558 := n6_; have NB546_558 := n7_; have NB558_546 := n8_; clear n0_ n1_ n2_ n3_ n4_ n5_ n6_ n7_ n8_; clear hb hbox hg; have hnb46 := NB558_546.out; have hnc46 := NB546_558.out; have hcz47_0 : w45.cell? ⟨gb558, 0, none⟩ = some (.string (⟨#[]⟩ : ByteArray)) := (blk_cell BK558.out 0).trans rfl; have hcz47_1 : w45.cell? ⟨gb558, 1, none⟩ = some (.int .i64 0) := (blk_cell BK558.out 1).trans rfl; have hcz47_2 : w45.cell? ⟨gb558, 2, none⟩ = some (.int .i64 0) := (blk_cell BK558.out 2).trans rfl; have hfz47_0 := blk_frozen BK558.out 0; have hfz47_1 := blk_frozen BK558.out 1; have hfz47_2 := blk_frozen BK558.out 2; obtain ⟨Ao48, co48, eo48⟩ := Kd.R_slice HO_9.out; subst eo48; have p559 : 0 ≤ (x61_3 : Int) := of_decide_eq_true (by first | (with_reducible assumption) | assumption); have q559 : x61_3 < (t553.length : Int) := of_decide_eq_true (by first | (with_reducible assumption) | assumption); obtain ⟨ad559, e559, hx559_0, hx559_1, hx559_2⟩ := at_T69 (Kd.R_reads' HO_9.out).2.2 x61_3 p559 q559; cases e559; have hn559_0 : ad559.block ≠ gb558 := Kd.own_blk (Kd.R_ne HO_9.out BK558.out (by decide)); have hn559_1 : ad559.block ≠ gb558 := Kd.own_blk (Kd.R_ne HO_9.out BK558.out (by decide)); have hn559_2 : ad559.block ≠ gb558 := Kd.own_blk (Kd.R_ne HO_9.out BK558.out (by decide)); replace hx559_0 := (cell_far (p := ⟨gb558, 0, none⟩) (by first | (rw [add_block]; exact hn559_0) | (show (Addr.add _ _).block ≠ _; rw [add_block]; exact hn559_0) | exact hn559_0) (.string ((rd_T68 t549 x61_3).f0))).trans hx559_0; replace hx559_1 := (cell_far (p := ⟨gb558, 0, none⟩) (by first | (rw [add_block]; exact hn559_0) | (show (Addr.add _ _).block ≠ _; rw [add_block]; exact hn559_0) | exact hn559_0) (.string ((rd_T68 t549 x61_3).f0))).trans hx559_1; replace hx559_2 := (cell_far (p := ⟨gb558, 0, none⟩) (by first | (rw [add_block]; exact hn559_0) | (show (Addr.add _ _).block ≠ _; rw [add_block]; exact hn559_0) | exact hn559_0) (.string ((rd_T68 t549 x61_3).f0))).trans hx559_2; replace hx559_0 := (cell_far (p := ⟨gb558, 1, none⟩) (by first | (rw [add_block]; exact hn559_1) | (show (Addr.add _ _).block ≠ _; rw [add_block]; exact hn559_1) | exact hn559_1) (.int .i64 ((rd_T68 t549 x61_3).f1))).trans hx559_0; replace hx559_1 := (cell_far (p := ⟨gb558, 1, none⟩) (by first | (rw [add_block]; exact hn559_1) | (show (Addr.add _ _).block ≠ _; rw [add_block]; exact hn559_1) | exact hn559_1) (.int .i64 ((rd_T68 t549 x61_3).f1))).trans hx559_1; replace hx559_2 := (cell_far (p := ⟨gb558, 1, none⟩) (by first | (rw [add_block]; exact hn559_1) | (show (Addr.add _ _).block ≠ _; rw [add_block]; exact hn559_1) | exact hn559_1) (.int .i64 ((rd_T68 t549 x61_3).f1))).trans hx559_2; replace hx559_0 := (cell_far (p := ⟨gb558, 2, none⟩) (by first | (rw [add_block]; exact hn559_2) | (show (Addr.add _ _).block ≠ _; rw [add_block]; exact hn559_2) | exact hn559_2) (.int .i64 ((rd_T68 t549 x61_3).f2))).trans hx559_0; replace hx559_1 := (cell_far (p := ⟨gb558, 2, none⟩) (by first | (rw [add_block]; exact hn559_2) | (show (Addr.add _ _).block ≠ _; rw [add_block]; exact hn559_2) | exact hn559_2) (.int .i64 ((rd_T68 t549 x61_3).f2))).trans hx559_1; replace hx559_2 := (cell_far (p := ⟨gb558, 2, none⟩) (by first | (rw [add_block]; exact hn559_2) | (show (Addr.add _ _).block ≠ _; rw [add_block]; exact hn559_2) | exact hn559_2) (.int .i64 ((rd_T68 t549 x61_3).f2))).trans hx559_2; (try have hy559_0 := fun (n_ : Nat) => (show (((((w45.drewN n_).setCell ⟨gb558, 0, none⟩ (.string ((rd_T68 t549 x61_3).f0))).setCell ⟨gb558, 1, none⟩ (.int .i64 ((rd_T68 t549 x61_3).f1))).setCell ⟨gb558, 2, none⟩ (.int .i64 ((rd_T68 t549 x61_3).f2)))).cell? _ = some _ from hx559_0)); (try have hy559_1 := fun (n_ : Nat) => (show (((((w45.drewN n_).setCell ⟨gb558, 0, none⟩ (.string ((rd_T68 t549 x61_3).f0))).setCell ⟨gb558, 1, none⟩ (.int .i64 ((rd_T68 t549 x61_3).f1))).setCell ⟨gb558, 2, none⟩ (.int .i64 ((rd_T68 t549 x61_3).f2)))).cell? _ = some _ from hx559_1)); (try have hy559_2 := fun (n_ : Nat) => (show (((((w45.drewN n_).setCell ⟨gb558, 0, none⟩ (.string ((rd_T68 t549 x61_3).f0))).setCell ⟨gb558, 1, none⟩ (.int .i64 ((rd_T68 t549 x61_3).f1))).setCell ⟨gb558, 2, none⟩ (.int .i64 ((rd_T68 t549 x61_3).f2)))).cell? _ = some _ from hx559_2)); clear hn559_0; clear hn559_1; clear hn559_2; replace p559 := eq_true p559; replace q559 := eq_true q559))
                repeat (go_quiet (first | ((with_reducible refine gate_dst (N := 13) rfl ?_); (try (refine gate_guard (by rfl) ?_; dsimp only)); refine box_event ?hg (N := 13) ?hd (cs := #[.string (⟨#[]⟩ : ByteArray), .int .i64 0, .int .i64 0]) (t := 68) ?hr ?_; (case hd => rfl); (case hg => rfl); (case hr => first | (go_simp; done) | (go_simp; rfl)); intro gb558 hg w45 hbox hb; have n0_ := Aside0.mk (Kd.R_below (by (with_reducible repeat (first | apply Kd.R_alloc | apply Kd.R_drewN | apply Kd.R_drew)); exact HO_9.out) hb); have n1_ := Aside0.mk (Kd.R_below (Kd.R_elderB (by (with_reducible repeat (first | apply Kd.R_alloc | apply Kd.R_drewN | apply Kd.R_drew)); exact HO_59.out) gb558 (Nat.le_of_eq hg.symm)) hb); have n2_ := Aside0.mk (blk_below (g := gb546) (o := .cells #[.int .i64 a1_0, .int .i64 a1_1, .int .i64 a1_2, .int .i64 a1_3] 58 (0, 0)) (by (with_reducible repeat (first | refine blk_drewN ?_ _ | refine blk_drew ?_ | refine blk_alloc ?_ _)); exact BK546.out) hb); have n3_ := Aside0.mk (below_step (by repeat (first | (with_reducible first | exact HB.out | apply below_alloc | apply pw_below_drewN | apply below_drew1 | refine below_set ?_ GE546.out) | exact HB.out)) hb); have n4_ := Aside0.mk (hbox); have n5_ := Aside0.mk ((by rw [hg]; exact (below_size (by repeat (first | (with_reducible first | exact HB.out | apply below_alloc | apply pw_below_drewN | apply below_drew1 | refine below_set ?_ GE546.out) | exact HB.out))) : w.heap.size ≤ gb558)); have n6_ := Aside0.mk ((by rw [hg]; exact (below_size (by repeat (first | (with_reducible first | exact HB.out | apply below_alloc | apply pw_below_drewN | apply below_drew1 | refine below_set ?_ GE546.out) | exact HB.out))) : w.heap.size ≤ gb558)); have n7_ := Aside0.mk ((by rw [hg]; exact Nat.ne_of_lt (blk_lt (g := gb546) (o := .cells #[.int .i64 a1_0, .int .i64 a1_1, .int .i64 a1_2, .int .i64 a1_3] 58 (0, 0)) (by (with_reducible repeat (first | refine blk_drewN ?_ _ | refine blk_drew ?_ | refine blk_alloc ?_ _)); exact BK546.out)) : gb546 ≠ gb558)); have n8_ := Aside0.mk ((by rw [hg]; exact Nat.ne_of_gt (blk_lt (g := gb546) (o := .cells #[.int .i64 a1_0, .int .i64 a1_1, .int .i64 a1_2, .int .i64 a1_3] 58 (0, 0)) (by (with_reducible repeat (first | refine blk_drewN ?_ _ | refine blk_drew ?_ | refine blk_alloc ?_ _)); exact BK546.out)) : gb558 ≠ gb546)); clear HO_9; clear HO_59; clear BK546; clear HB; have HO_9 := n0_; have HO_59 := n1_; have BK546 := n2_; have HB := n3_; have BK558 := n4_; have GW558 := n5_; have GE558 := n6_; have NB546_558 := n7_; have NB558_546 := n8_; clear n0_ n1_ n2_ n3_ n4_ n5_ n6_ n7_ n8_; clear hb hbox hg; have hnb46 := NB558_546.out; have hnc46 := NB546_558.out; have hcz47_0 : w45.cell? ⟨gb558, 0, none⟩ = some (.string (⟨#[]⟩ : ByteArray)) := (blk_cell BK558.out 0).trans rfl; have hcz47_1 : w45.cell? ⟨gb558, 1, none⟩ = some (.int .i64 0) := (blk_cell BK558.out 1).trans rfl; have hcz47_2 : w45.cell? ⟨gb558, 2, none⟩ = some (.int .i64 0) := (blk_cell BK558.out 2).trans rfl; have hfz47_0 := blk_frozen BK558.out 0; have hfz47_1 := blk_frozen BK558.out 1; have hfz47_2 := blk_frozen BK558.out 2; obtain ⟨Ao48, co48, eo48⟩ := Kd.R_slice HO_9.out; subst eo48; have p559 : 0 ≤ (x61_3 : Int) := of_decide_eq_true (by first | (with_reducible assumption) | assumption); have q559 : x61_3 < (t553.length : Int) := of_decide_eq_true (by first | (with_reducible assumption) | assumption); obtain ⟨ad559, e559, hx559_0, hx559_1, hx559_2⟩ := at_T69 (Kd.R_reads' HO_9.out).2.2 x61_3 p559 q559; cases e559; have hn559_0 : ad559.block ≠ gb558 := Kd.own_blk (Kd.R_ne HO_9.out BK558.out (by decide)); have hn559_1 : ad559.block ≠ gb558 := Kd.own_blk (Kd.R_ne HO_9.out BK558.out (by decide)); have hn559_2 : ad559.block ≠ gb558 := Kd.own_blk (Kd.R_ne HO_9.out BK558.out (by decide)); replace hx559_0 := (cell_far (p := ⟨gb558, 0, none⟩) (by first | (rw [add_block]; exact hn559_0) | (show (Addr.add _ _).block ≠ _; rw [add_block]; exact hn559_0) | exact hn559_0) (.string ((rd_T68 t549 x61_3).f0))).trans hx559_0; replace hx559_1 := (cell_far (p := ⟨gb558, 0, none⟩) (by first | (rw [add_block]; exact hn559_0) | (show (Addr.add _ _).block ≠ _; rw [add_block]; exact hn559_0) | exact hn559_0) (.string ((rd_T68 t549 x61_3).f0))).trans hx559_1; replace hx559_2 := (cell_far (p := ⟨gb558, 0, none⟩) (by first | (rw [add_block]; exact hn559_0) | (show (Addr.add _ _).block ≠ _; rw [add_block]; exact hn559_0) | exact hn559_0) (.string ((rd_T68 t549 x61_3).f0))).trans hx559_2; replace hx559_0 := (cell_far (p := ⟨gb558, 1, none⟩) (by first | (rw [add_block]; exact hn559_1) | (show (Addr.add _ _).block ≠ _; rw [add_block]; exact hn559_1) | exact hn559_1) (.int .i64 ((rd_T68 t549 x61_3).f1))).trans hx559_0; replace hx559_1 := (cell_far (p := ⟨gb558, 1, none⟩) (by first | (rw [add_block]; exact hn559_1) | (show (Addr.add _ _).block ≠ _; rw [add_block]; exact hn559_1) | exact hn559_1) (.int .i64 ((rd_T68 t549 x61_3).f1))).trans hx559_1; replace hx559_2 := (cell_far (p := ⟨gb558, 1, none⟩) (by first | (rw [add_block]; exact hn559_1) | (show (Addr.add _ _).block ≠ _; rw [add_block]; exact hn559_1) | exact hn559_1) (.int .i64 ((rd_T68 t549 x61_3).f1))).trans hx559_2; replace hx559_0 := (cell_far (p := ⟨gb558, 2, none⟩) (by first | (rw [add_block]; exact hn559_2) | (show (Addr.add _ _).block ≠ _; rw [add_block]; exact hn559_2) | exact hn559_2) (.int .i64 ((rd_T68 t549 x61_3).f2))).trans hx559_0; replace hx559_1 := (cell_far (p := ⟨gb558, 2, none⟩) (by first | (rw [add_block]; exact hn559_2) | (show (Addr.add _ _).block ≠ _; rw [add_block]; exact hn559_2) | exact hn559_2) (.int .i64 ((rd_T68 t549 x61_3).f2))).trans hx559_1; replace hx559_2 := (cell_far (p := ⟨gb558, 2, none⟩) (by first | (rw [add_block]; exact hn559_2) | (show (Addr.add _ _).block ≠ _; rw [add_block]; exact hn559_2) | exact hn559_2) (.int .i64 ((rd_T68 t549 x61_3).f2))).trans hx559_2; (try have hy559_0 := fun (n_ : Nat) => (show (((((w45.drewN n_).setCell ⟨gb558, 0, none⟩ (.string ((rd_T68 t549 x61_3).f0))).setCell ⟨gb558, 1, none⟩ (.int .i64 ((rd_T68 t549 x61_3).f1))).setCell ⟨gb558, 2, none⟩ (.int .i64 ((rd_T68 t549 x61_3).f2)))).cell? _ = some _ from hx559_0)); (try have hy559_1 := fun (n_ : Nat) => (show (((((w45.drewN n_).setCell ⟨gb558, 0, none⟩ (.string ((rd_T68 t549 x61_3).f0))).setCell ⟨gb558, 1, none⟩ (.int .i64 ((rd_T68 t549 x61_3).f1))).setCell ⟨gb558, 2, none⟩ (.int .i64 ((rd_T68 t549 x61_3).f2)))).cell? _ = some _ from hx559_1)); (try have hy559_2 := fun (n_ : Nat) => (show (((((w45.drewN n_).setCell ⟨gb558, 0, none⟩ (.string ((rd_T68 t549 x61_3).f0))).setCell ⟨gb558, 1, none⟩ (.int .i64 ((rd_T68 t549 x61_3).f1))).setCell ⟨gb558, 2, none⟩ (.int .i64 ((rd_T68 t549 x61_3).f2)))).cell? _ = some _ from hx559_2)); clear hn559_0; clear hn559_1; clear hn559_2; replace p559 := eq_true p559; replace q559 := eq_true q559)); try go_wp2_with (first | ((with_reducible refine gate_dst (N := 13) rfl ?_); (try (refine gate_guard (by rfl) ?_; dsimp only)); refine box_event ?hg (N := 13) ?hd (cs := #[.string (⟨#[]⟩ : ByteArray), .int .i64 0, .int .i64 0]) (t := 68) ?hr ?_; (case hd => rfl); (case hg => rfl); (case hr => first | (go_simp; done) | (go_simp; rfl)); intro gb558 hg w45 hbox hb; have n0_ := Aside0.mk (Kd.R_below (by (with_reducible repeat (first | apply Kd.R_alloc | apply Kd.R_drewN | apply Kd.R_drew)); exact HO_9.out) hb); have n1_ := Aside0.mk (Kd.R_below (Kd.R_elderB (by (with_reducible repeat (first | apply Kd.R_alloc | apply Kd.R_drewN | apply Kd.R_drew)); exact HO_59.out) gb558 (Nat.le_of_eq hg.symm)) hb); have n2_ := Aside0.mk (blk_below (g := gb546) (o := .cells #[.int .i64 a1_0, .int .i64 a1_1, .int .i64 a1_2, .int .i64 a1_3] 58 (0, 0)) (by (with_reducible repeat (first | refine blk_drewN ?_ _ | refine blk_drew ?_ | refine blk_alloc ?_ _)); exact BK546.out) hb); have n3_ := Aside0.mk (below_step (by repeat (first | (with_reducible first | exact HB.out | apply below_alloc | apply pw_below_drewN | apply below_drew1 | refine below_set ?_ GE546.out) | exact HB.out)) hb); have n4_ := Aside0.mk (hbox); have n5_ := Aside0.mk ((by rw [hg]; exact (below_size (by repeat (first | (with_reducible first | exact HB.out | apply below_alloc | apply pw_below_drewN | apply below_drew1 | refine below_set ?_ GE546.out) | exact HB.out))) : w.heap.size ≤ gb558)); have n6_ := Aside0.mk ((by rw [hg]; exact (below_size (by repeat (first | (with_reducible first | exact HB.out | apply below_alloc | apply pw_below_drewN | apply below_drew1 | refine below_set ?_ GE546.out) | exact HB.out))) : w.heap.size ≤ gb558)); have n7_ := Aside0.mk ((by rw [hg]; exact Nat.ne_of_lt (blk_lt (g := gb546) (o := .cells #[.int .i64 a1_0, .int .i64 a1_1, .int .i64 a1_2, .int .i64 a1_3] 58 (0, 0)) (by (with_reducible repeat (first | refine blk_drewN ?_ _ | refine blk_drew ?_ | refine blk_alloc ?_ _)); exact BK546.out)) : gb546 ≠ gb558)); have n8_ := Aside0.mk ((by rw [hg]; exact Nat.ne_of_gt (blk_lt (g := gb546) (o := .cells #[.int .i64 a1_0, .int .i64 a1_1, .int .i64 a1_2, .int .i64 a1_3] 58 (0, 0)) (by (with_reducible repeat (first | refine blk_drewN ?_ _ | refine blk_drew ?_ | refine blk_alloc ?_ _)); exact BK546.out)) : gb558 ≠ gb546)); clear HO_9; clear HO_59; clear BK546; clear HB; have HO_9 := n0_; have HO_59 := n1_; have BK546 := n2_; have HB := n3_; have BK558 := n4_; have GW558 := n5_; have GE558 := n6_; have NB546_558 := n7_; have NB558_546 := n8_; clear n0_ n1_ n2_ n3_ n4_ n5_ n6_ n7_ n8_; clear hb hbox hg; have hnb46 := NB558_546.out; have hnc46 := NB546_558.out; have hcz47_0 : w45.cell? ⟨gb558, 0, none⟩ = some (.string (⟨#[]⟩ : ByteArray)) := (blk_cell BK558.out 0).trans rfl; have hcz47_1 : w45.cell? ⟨gb558, 1, none⟩ = some (.int .i64 0) := (blk_cell BK558.out 1).trans rfl; have hcz47_2 : w45.cell? ⟨gb558, 2, none⟩ = some (.int .i64 0) := (blk_cell BK558.out 2).trans rfl; have hfz47_0 := blk_frozen BK558.out 0; have hfz47_1 := blk_frozen BK558.out 1; have hfz47_2 := blk_frozen BK558.out 2; obtain ⟨Ao48, co48, eo48⟩ := Kd.R_slice HO_9.out; subst eo48; have p559 : 0 ≤ (x61_3 : Int) := of_decide_eq_true (by first | (with_reducible assumption) | assumption); have q559 : x61_3 < (t553.length : Int) := of_decide_eq_true (by first | (with_reducible assumption) | assumption); obtain ⟨ad559, e559, hx559_0, hx559_1, hx559_2⟩ := at_T69 (Kd.R_reads' HO_9.out).2.2 x61_3 p559 q559; cases e559; have hn559_0 : ad559.block ≠ gb558 := Kd.own_blk (Kd.R_ne HO_9.out BK558.out (by decide)); have hn559_1 : ad559.block ≠ gb558 := Kd.own_blk (Kd.R_ne HO_9.out BK558.out (by decide)); have hn559_2 : ad559.block ≠ gb558 := Kd.own_blk (Kd.R_ne HO_9.out BK558.out (by decide)); replace hx559_0 := (cell_far (p := ⟨gb558, 0, none⟩) (by first | (rw [add_block]; exact hn559_0) | (show (Addr.add _ _).block ≠ _; rw [add_block]; exact hn559_0) | exact hn559_0) (.string ((rd_T68 t549 x61_3).f0))).trans hx559_0; replace hx559_1 := (cell_far (p := ⟨gb558, 0, none⟩) (by first | (rw [add_block]; exact hn559_0) | (show (Addr.add _ _).block ≠ _; rw [add_block]; exact hn559_0) | exact hn559_0) (.string ((rd_T68 t549 x61_3).f0))).trans hx559_1; replace hx559_2 := (cell_far (p := ⟨gb558, 0, none⟩) (by first | (rw [add_block]; exact hn559_0) | (show (Addr.add _ _).block ≠ _; rw [add_block]; exact hn559_0) | exact hn559_0) (.string ((rd_T68 t549 x61_3).f0))).trans hx559_2; replace hx559_0 := (cell_far (p := ⟨gb558, 1, none⟩) (by first | (rw [add_block]; exact hn559_1) | (show (Addr.add _ _).block ≠ _; rw [add_block]; exact hn559_1) | exact hn559_1) (.int .i64 ((rd_T68 t549 x61_3).f1))).trans hx559_0; replace hx559_1 := (cell_far (p := ⟨gb558, 1, none⟩) (by first | (rw [add_block]; exact hn559_1) | (show (Addr.add _ _).block ≠ _; rw [add_block]; exact hn559_1) | exact hn559_1) (.int .i64 ((rd_T68 t549 x61_3).f1))).trans hx559_1; replace hx559_2 := (cell_far (p := ⟨gb558, 1, none⟩) (by first | (rw [add_block]; exact hn559_1) | (show (Addr.add _ _).block ≠ _; rw [add_block]; exact hn559_1) | exact hn559_1) (.int .i64 ((rd_T68 t549 x61_3).f1))).trans hx559_2; replace hx559_0 := (cell_far (p := ⟨gb558, 2, none⟩) (by first | (rw [add_block]; exact hn559_2) | (show (Addr.add _ _).block ≠ _; rw [add_block]; exact hn559_2) | exact hn559_2) (.int .i64 ((rd_T68 t549 x61_3).f2))).trans hx559_0; replace hx559_1 := (cell_far (p := ⟨gb558, 2, none⟩) (by first | (rw [add_block]; exact hn559_2) | (show (Addr.add _ _).block ≠ _; rw [add_block]; exact hn559_2) | exact hn559_2) (.int .i64 ((rd_T68 t549 x61_3).f2))).trans hx559_1; replace hx559_2 := (cell_far (p := ⟨gb558, 2, none⟩) (by first | (rw [add_block]; exact hn559_2) | (show (Addr.add _ _).block ≠ _; rw [add_block]; exact hn559_2) | exact hn559_2) (.int .i64 ((rd_T68 t549 x61_3).f2))).trans hx559_2; (try have hy559_0 := fun (n_ : Nat) => (show (((((w45.drewN n_).setCell ⟨gb558, 0, none⟩ (.string ((rd_T68 t549 x61_3).f0))).setCell ⟨gb558, 1, none⟩ (.int .i64 ((rd_T68 t549 x61_3).f1))).setCell ⟨gb558, 2, none⟩ (.int .i64 ((rd_T68 t549 x61_3).f2)))).cell? _ = some _ from hx559_0)); (try have hy559_1 := fun (n_ : Nat) => (show (((((w45.drewN n_).setCell ⟨gb558, 0, none⟩ (.string ((rd_T68 t549 x61_3).f0))).setCell ⟨gb558, 1, none⟩ (.int .i64 ((rd_T68 t549 x61_3).f1))).setCell ⟨gb558, 2, none⟩ (.int .i64 ((rd_T68 t549 x61_3).f2)))).cell? _ = some _ from hx559_1)); (try have hy559_2 := fun (n_ : Nat) => (show (((((w45.drewN n_).setCell ⟨gb558, 0, none⟩ (.string ((rd_T68 t549 x61_3).f0))).setCell ⟨gb558, 1, none⟩ (.int .i64 ((rd_T68 t549 x61_3).f1))).setCell ⟨gb558, 2, none⟩ (.int .i64 ((rd_T68 t549 x61_3).f2)))).cell? _ = some _ from hx559_2)); clear hn559_0; clear hn559_1; clear hn559_2; replace p559 := eq_true p559; replace q559 := eq_true q559)))
                go_roundg k3
                case measure => have := HJ3.out; have := HJ14.out; have := HK3.out; omega
                case rel => exact ⟨(wrap64 (x11_3 + ((rd_T68 t549 x61_3).f1))), (wrap64 (x61_3 + 1)), (by first | rfl | (simp; done) | (simp [*]; done)), (by first | rfl | (simp; done) | (simp [*]; done)), H', ⟨by have := HJ3.out; have := HJ14.out; have := HK3.out; omega⟩, ⟨by (with_reducible repeat (first | apply Kd.R_alloc | apply Kd.R_drewN | apply Kd.R_drew)); exact Kd.R_mono (Kd.R_far (p := ⟨gb558, 2, none⟩) (Kd.R_far (p := ⟨gb558, 1, none⟩) (Kd.R_far (p := ⟨gb558, 0, none⟩) (Kd.R_types HO_9.out BK558.out (by decide)) (fun _ hk => hk.2) (.string ((rd_T68 t549 x61_3).f0))) (fun _ hk => hk.2) (.int .i64 ((rd_T68 t549 x61_3).f1))) (fun _ hk => hk.2) (.int .i64 ((rd_T68 t549 x61_3).f2))) (fun _ hk => trivial)⟩, ⟨by (with_reducible repeat (first | apply Kd.R_alloc | apply Kd.R_drewN | apply Kd.R_drew)); exact Kd.R_mono (Kd.R_far (p := ⟨gb558, 2, none⟩) (Kd.R_far (p := ⟨gb558, 1, none⟩) (Kd.R_far (p := ⟨gb558, 0, none⟩) (Kd.R_mono HO_59.out (fun k_ hk => (⟨hk, hk.2⟩ : _ ∧ k_ ≠ gb558))) (fun _ hk => hk.2) (.string ((rd_T68 t549 x61_3).f0))) (fun _ hk => hk.2) (.int .i64 ((rd_T68 t549 x61_3).f1))) (fun _ hk => hk.2) (.int .i64 ((rd_T68 t549 x61_3).f2))) (fun _ hk => trivial)⟩, ⟨by (with_reducible repeat (first | refine blk_drewN ?_ _ | refine blk_drew ?_ | refine blk_alloc ?_ _)); refine blk_far ?_ NB546_558.out _; (with_reducible repeat (first | refine blk_drewN ?_ _ | refine blk_drew ?_ | refine blk_alloc ?_ _)); refine blk_far ?_ NB546_558.out _; (with_reducible repeat (first | refine blk_drewN ?_ _ | refine blk_drew ?_ | refine blk_alloc ?_ _)); refine blk_far ?_ NB546_558.out _; (with_reducible repeat (first | refine blk_drewN ?_ _ | refine blk_drew ?_ | refine blk_alloc ?_ _)); exact BK546.out⟩, ⟨by repeat (first | (with_reducible first | exact HB.out | apply below_alloc | apply pw_below_drewN | apply below_drew1 | refine below_set ?_ GE546.out | refine below_set ?_ GE558.out) | exact HB.out)⟩⟩
            ·rw [if_neg c29] at H
             exact absurd H (by simp)
           ·rw [if_neg c28] at H
            exact absurd H (by simp)
          ·rw [if_neg c27] at H
           exact absurd H (by simp)
         ·rw [if_neg c26] at H
          have c26b0 : decide (x61_3 < (t549.length : Int)) = false := decide_eq_false c26
          clear c26
          by_cases c49 : t552 = 0
          ·rw [if_pos c49] at H
           have c49b0 : (t552 == 0) = true := beq_iff_eq.mpr c49
           have c49b1 : (t552 != 0) = false := bne_eq_false_iff_eq.mpr c49
           clear c49
           obtain rfl := Option.some.inj H
           go_wp2
           repeat (go_quiet (fail); try go_wp2)
           go_ret
           exact ⟨by first | rfl | (simp [errW_none, errW_some] <;> rfl) | (simp [*, errW_none, errW_some] <;> rfl), by repeat (first | (with_reducible first | exact HB.out | apply below_alloc | apply pw_below_drewN | apply below_drew1 | refine below_set ?_ GE546.out) | exact HB.out)⟩
          ·rw [if_neg c49] at H
           have c49b0 : (t552 == 0) = false := beq_eq_false_iff_ne.mpr c49
           have c49b1 : (t552 != 0) = true := bne_iff_ne.mpr c49
           obtain rfl := Option.some.inj H
           go_wp2
           repeat (go_quiet (fail); try go_wp2)
           go_ret
           exact ⟨by first | rfl | (simp [errW_none, errW_some] <;> rfl) | (simp [*, errW_none, errW_some] <;> rfl), by repeat (first | (with_reducible first | exact HB.out | apply below_alloc | apply pw_below_drewN | apply below_drew1 | refine below_set ?_ GE546.out) | exact HB.out)⟩
end Go.Proofs.Ytncnhhnbjmpomaa.Q
namespace Go.Proofs.Ytncnhhnbjmpomaa.Q
open Go.RowKit Go.Proofs.YtncnhhnbjmpomaaW.PrintWords Go.Proofs.Ytncnhhnbjmpomaa Go.Sort
set_option linter.unusedVariables false
set_option linter.unusedSimpArgs false
theorem rd68 (l : List S68) (i : Nat) (h : i < l.length) : rd_T68 l (i : Int) = l[i] := by simp [rd_T68, List.getD_eq_getElem?_getD, h]
theorem rd69 (l : List S69) (i : Nat) (h : i < l.length) : rd_T69 l (i : Int) = l[i] := by simp [rd_T69, List.getD_eq_getElem?_getD, h]
theorem pp_same (l : List S68) (hl : l.length ≤ 1000) : ∀ (d i : Nat), l.length - i = d → i ≤ l.length → EvT (fun k => part_Part.l0 k l l (l.length : Int) i) true
  | 0, i, hd, hi => EvT.done fun k => by simp only [part_Part.l0]; rw [if_neg (by omega)]
  | d + 1, i, hd, hi => by
    refine EvT.step (fun k => ?_) (pp_same l hl d (i + 1) (by omega) (by omega))
    simp only [part_Part.l0]
    rw [if_pos (by omega), if_pos (by omega), if_pos (by omega), if_pos (by omega), if_neg (by simp), nx i (by omega)]
theorem srt2 : srt #[⟨0, 1⟩, ⟨1, 2⟩] = #[⟨1, 2⟩, ⟨0, 1⟩] := by
  show insOuter (ltOf cf98) 0 2 1 _ = _
  rw [insOuter_go _ _ _ _ _ (by decide)]
  have h1 : insInner (ltOf cf98) 0 1 #[(⟨0, 1⟩ : S98), ⟨1, 2⟩] = #[⟨1, 2⟩, ⟨0, 1⟩] := by rfl
  rw [h1, insOuter_stop _ _ _ _ _ (by decide)]
def exL : List S106 := [⟨⟨#[97]⟩, 1⟩, ⟨⟨#[98]⟩, 2⟩]
theorem nets_ex : partsF 100 [1, 2] = [33, 67] := by
  unfold partsF
  have h1 : (restsF 100 [1, 2].sum 0 [1, 2]).toArray = #[⟨0, 1⟩, ⟨1, 2⟩] := by rfl
  rw [h1, srt2]; rfl
theorem right_ex : rightF exL = 0 := by
  have e1 : (⟨#[97]⟩ : ByteArray).toList = [97] := ByteArray.toList_eq _
  have e2 : (⟨#[98]⟩ : ByteArray).toList = [98] := ByteArray.toList_eq _
  have s1 : (⟨#[97]⟩ : ByteArray).size = 1 := rfl
  have s2 : (⟨#[98]⟩ : ByteArray).size = 1 := rfl
  have b1 : badS ⟨⟨#[97]⟩, 1⟩ = false := by unfold badS; simp [e1, s1]
  have b2 : badS ⟨⟨#[98]⟩, 2⟩ = false := by unfold badS; simp [e2, s2]
  have ne : ¬ (⟨#[98]⟩ : ByteArray) = ⟨#[97]⟩ := by intro h; injection h with h; simp at h
  unfold rightF exL
  rw [if_neg (by decide)]
  unfold rightL
  rw [b1, if_neg (by decide), if_neg (by simp)]
  unfold rightL
  rw [b2, if_neg (by decide), if_neg (by simp [ne])]
  rfl
theorem lives12_ok : EvT (fun k => souklaw12_lives.f k) true := by
  have h := of_ok 100 0 0 0 0 exL (by decide) ⟨by decide, by decide⟩ ⟨by decide, by decide⟩ ⟨by decide, by decide⟩
  have e : resE 100 0 0 0 exL = 0 := by
    unfold resE
    rw [if_neg (by unfold badC wrap64; decide), right_ex]
  have en : nets 100 0 0 exL = [33, 67] := nets_ex
  rw [if_pos e, en] at h
  have ez : List.zipWith (p68 0) exL [33, 67] = [⟨⟨#[97]⟩, 33, 0⟩, ⟨⟨#[98]⟩, 67, 0⟩] := by rfl
  rw [ez] at h
  have hs := pp_same [⟨⟨#[97]⟩, 33, 0⟩, ⟨⟨#[98]⟩, 67, 0⟩] (by decide) 2 0 rfl (by decide)
  unfold souklaw12_lives.f
  refine EvT.bind (F := fun k bt515 => if bt515.2 = 0 then (part_Part.f k bt515.1 ([(⟨(⟨#[97]⟩ : ByteArray), 33, 0⟩ : S68), (⟨(⟨#[98]⟩ : ByteArray), 67, 0⟩ : S68)] : List S68)).bind fun t522 => some t522 else some false) h ?_
  refine EvT.congr (fun k => if_pos rfl) (EvT.bind (F := fun k t => some t) ?_ (EvT.const _))
  refine EvT.congr (fun k => ?_) hs
  unfold part_Part.f
  rw [if_pos rfl]; rfl
theorem hv_bd {hold n : Int} (h0 : 0 ≤ hold) (h1 : hold ≤ 10000) (n0 : 0 ≤ n) (n1 : n ≤ 1125899906842624) : 0 ≤ hv hold n ∧ hv hold n ≤ n := by
  obtain ⟨a, rfl⟩ := Int.eq_ofNat_of_zero_le n0
  obtain ⟨b, rfl⟩ := Int.eq_ofNat_of_zero_le h0
  have hn : negB (a : Int) (b : Int) = false := by unfold negB; rw [decide_eq_false (by omega), decide_eq_false (by omega)]; rfl
  have hm : mdV (a : Int) (b : Int) 10000 0 = a * b / 10000 := by
    unfold mdV upB
    rw [hn]
    simp [bv]
  have hle : a * b / 10000 ≤ a := by
    have : a * b ≤ a * 10000 := Nat.mul_le_mul_left a (by omega)
    omega
  unfold hv mdF
  rw [hm, hn]
  unfold valF
  rw [if_neg (by decide), if_pos (by omega)]
  constructor <;> simp only [] <;> omega
theorem take_sum_le : ∀ (l : List Int) (k : Nat), (∀ x ∈ l, 0 ≤ x) → 0 ≤ (l.take k).sum ∧ (l.take k).sum ≤ l.sum
  | [], k, _ => by simp
  | x :: l, 0, h => by
    have := sum_nn (x :: l) h
    simp at this ⊢; omega
  | x :: l, k + 1, h => by
    have := take_sum_le l k (fun y hy => h y (by simp [hy]))
    have h1 := h x (by simp)
    simp; omega
theorem sh_l0 (a c c2 : Int) (l : List S106) (ns : List Int) (hl : l.length ≤ 20) (hn : ns.length = l.length) (h0 : 0 ≤ c2) (h1 : c2 ≤ 10000) (n0 : ∀ n ∈ ns, 0 ≤ n) (n1 : ns.sum ≤ 1125899906842624) (hc0 : 0 ≤ c) (hc : c + ns.sum = a) (ha : a ≤ 1125899906842624) : ∀ (d i : Nat), l.length - i = d → i ≤ l.length →
    EvT (fun k => souklaw12_PartShares.l0 k a 0 (List.zipWith (p69 c2) l ns) (c + (ns.take i).sum) (List.zipWith (p68 c2) l ns) ((List.zipWith (p68 c2) l ns).length : Int) i) true
  | 0, i, hd, hi => EvT.done fun k => by
    have hz : (List.zipWith (p68 c2) l ns).length = l.length := by simp; omega
    simp only [souklaw12_PartShares.l0]
    rw [if_neg (by omega), if_pos trivial, List.take_of_length_le (by omega), hc]
    simp
  | d + 1, i, hd, hi => by
    have hlt : i < l.length := by omega
    have hz : (List.zipWith (p68 c2) l ns).length = l.length := by simp; omega
    have hz2 : (List.zipWith (p69 c2) l ns).length = l.length := by simp; omega
    have ih := sh_l0 a c c2 l ns hl hn h0 h1 n0 n1 hc0 hc ha d (i + 1) (by omega) (by omega)
    have hx := n0 ns[i] (List.getElem_mem _)
    have hxs := mem_le_sum ns n0 ns[i] (List.getElem_mem _)
    have hb := hv_bd (n := ns[i]) h0 h1 hx (by omega)
    have ht := take_sum_le ns (i + 1) n0
    have ht0 := take_sum_le ns i n0
    have e1 : rd_T68 (List.zipWith (p68 c2) l ns) (i : Int) = p68 c2 l[i] ns[i] := by rw [rd68 _ _ (by omega), List.getElem_zipWith]
    have e2 : rd_T69 (List.zipWith (p69 c2) l ns) (i : Int) = p69 c2 l[i] ns[i] := by rw [rd69 _ _ (by omega), List.getElem_zipWith]
    rw [List.take_succ_eq_append_getElem (by omega), List.sum_append] at ih ht
    simp only [List.sum_cons, List.sum_nil, Int.add_zero] at ih ht
    refine EvT.step (fun k => ?_) ih
    have hc1 : (!((p68 c2 l[i] ns[i]).f0.toList == (p69 c2 l[i] ns[i]).f0.toList) || (!((p68 c2 l[i] ns[i]).f1 == (p69 c2 l[i] ns[i]).f1) || !((p68 c2 l[i] ns[i]).f2 == (p69 c2 l[i] ns[i]).f2))) = false := by simp [p68, p69]
    have g1 : ¬ (p68 c2 l[i] ns[i]).f2 < 0 := by show ¬ hv c2 ns[i] < 0; omega
    have g2 : ¬ (p68 c2 l[i] ns[i]).f2 > (p68 c2 l[i] ns[i]).f1 := by show ¬ hv c2 ns[i] > ns[i]; omega
    have e3 : (p68 c2 l[i] ns[i]).f1 = ns[i] := rfl
    simp only [souklaw12_PartShares.l0]
    rw [e1, e2, if_pos (by omega), if_pos (by omega), if_pos (by omega), if_pos (by omega), hc1, if_neg (by decide), if_neg g1, if_neg g2, nx i (by omega), e3, w64i (by omega) (by omega), Int.add_assoc]
theorem shares_law (a c0 c1 c2 c3 : Int) (l : List S106) (ha : inR a) (h0 : inR c0) (h1 : inR c1) (h2 : inR c2) : ∃ k, souklaw12_PartShares.f k a c0 c1 c2 c3 l = some true := by
  apply EvT.one
  unfold souklaw12_PartShares.f
  refine EvT.bind lives12_ok (EvT.congr (fun k => if_pos rfl) ?_)
  by_cases hl : 20 < l.length
  · have e : decide ((l.length : Int) > 20) = true := by simp; omega
    rw [e]
    refine EvT.step (g := fun k => (souklaw12_lives.f k).bind fun t => some t) (fun k => ?_) (EvT.bind (F := fun k t => some t) lives12_ok (EvT.const _))
    simp only [souklaw12_PartShares.j0]; rw [if_pos trivial]
  · have e : decide ((l.length : Int) > 20) = false := by simp; omega
    rw [e]
    have g1 := of_ok a c0 c1 c2 c3 l (by omega) ha h1 h2
    have g2 := parts_ok a c0 c1 c2 c3 l (by omega) ha h1 h2
    refine EvT.step (g := fun k => (part_Of.f k a c0 c1 c2 c3 l).bind fun bt549 => (soukref11_Parts.f k a c0 c1 c2 c3 l).bind fun bt553 => if bt549.2 = bt553.2 then souklaw12_PartShares.j1 k a bt549.1 bt549.2 bt553.1 ((bt549.1.length : Int) != (bt553.1.length : Int)) c0 c1 c2 c3 else souklaw12_PartShares.j1 k a bt549.1 bt549.2 bt553.1 true c0 c1 c2 c3) (fun k => ?_)
      (EvT.bind (F := fun k bt549 => (soukref11_Parts.f k a c0 c1 c2 c3 l).bind fun bt553 => if bt549.2 = bt553.2 then souklaw12_PartShares.j1 k a bt549.1 bt549.2 bt553.1 ((bt549.1.length : Int) != (bt553.1.length : Int)) c0 c1 c2 c3 else souklaw12_PartShares.j1 k a bt549.1 bt549.2 bt553.1 true c0 c1 c2 c3) g1
        (EvT.bind (F := fun k bt553 => if _ = bt553.2 then souklaw12_PartShares.j1 k a _ _ bt553.1 (_ != (bt553.1.length : Int)) c0 c1 c2 c3 else souklaw12_PartShares.j1 k a _ _ bt553.1 true c0 c1 c2 c3) g2 ?_))
    · simp only [souklaw12_PartShares.j0]; rw [if_neg (by decide)]
    by_cases hE : resE a c0 c1 c2 l = 0
    · rw [if_pos hE, if_pos hE]
      have hb : badC a c0 c1 c2 = false := by
        cases hb : badC a c0 c1 c2 with
        | false => rfl
        | true => unfold resE at hE; rw [hb, if_pos rfl] at hE; cases hE
      have h0' : rightF l = 0 := by unfold resE at hE; rw [hb, if_neg (by decide)] at hE; exact hE
      obtain ⟨w1, w2, w3, w4, w5⟩ := wts_facts l h0'
      obtain ⟨b1, b2, b3, b4, b5, b6, b7⟩ := badC_not hb ha h1
      obtain ⟨p1, p2, p3⟩ := parts_facts (a - c0 - c1) (wts l) b7 (fun x hx => by have := (w2 x hx).1; omega) w3
      have hwl : (wts l).length = l.length := by simp [wts]
      have hnl : (nets a c0 c1 l).length = l.length := by show (partsF _ _).length = _; rw [p3, hwl]
      have hns : (nets a c0 c1 l).sum = a - c0 - c1 := p2
      have hend := sh_l0 a (c0 + c1) c2 l (nets a c0 c1 l) (by omega) hnl b3 b4 p1 (by omega) (by omega) (by omega) (by omega) l.length 0 (by omega) (by omega)
      have hlen : ((List.zipWith (p68 c2) l (nets a c0 c1 l)).length : Int) = ((List.zipWith (p69 c2) l (nets a c0 c1 l)).length : Int) := by simp
      refine EvT.congr (fun k => if_pos rfl) (EvT.step (fun k => ?_) hend)
      simp only [souklaw12_PartShares.j1]
      rw [if_neg (by simp), w64i (by omega) (by omega)]
      simp
    · rw [if_neg hE, if_neg hE]
      refine EvT.congr (fun k => if_pos rfl) (EvT.step2 (fun k => ?_) (EvT.const true))
      simp only [souklaw12_PartShares.j1]
      rw [if_neg (by simp)]
      simp only [souklaw12_PartShares.l0]
      rw [if_neg (by simp), if_neg hE]
end Go.Proofs.Ytncnhhnbjmpomaa.Q
namespace Go.Proofs.Ytncnhhnbjmpomaa
open Go.RowKit Go.Proofs.Rk Go.Proofs.YtncnhhnbjmpomaaW.PrintWords
set_option linter.unusedVariables false
set_option linter.unusedSimpArgs false
theorem cellsOf_2 : Try.prog.cellsOf 2 = 1 := by kernel_rfl
theorem cellsOf_9 : Try.prog.cellsOf 9 = 1 := by kernel_rfl
theorem len_2 {cs : List Value} (h : cs.length = 2) : ∃ c0 c1, cs = [c0, c1] := by
  match cs, h with
  | [c0, c1], _ => exact ⟨c0, c1, rfl⟩
theorem len_4 {cs : List Value} (h : cs.length = 4) : ∃ c0 c1 c2 c3, cs = [c0, c1, c2, c3] := by
  match cs, h with
  | [c0, c1, c2, c3], _ => exact ⟨c0, c1, c2, c3, rfl⟩
structure A58 where
  f0 : Int
  f1 : Int
  f2 : Int
  f3 : Int
def A58.l (a : A58) : List Value := [.int .i64 a.f0, .int .i64 a.f1, .int .i64 a.f2, .int .i64 a.f3]
def k58 : Kn Try.prog 58 A58 where
  cells := A58.l
  ok a := (Kn.int Try.underlying2).ok a.f0 ∧ (Kn.int Try.underlying2).ok a.f1 ∧ (Kn.int Try.underlying2).ok a.f2 ∧ (Kn.int Try.underlying2).ok a.f3
  rd := by
    intro H enc w base spare held fuel cs x h
    obtain ⟨xs, m, _, _, hlen, hxl, hg⟩ := DataW.trod_struct Try.underlying58 h
    have hlen' : cs.length = 4 := hlen.trans (by kernel_rfl)
    clear hlen h
    obtain ⟨c0, c1, c2, c3, rfl⟩ := len_4 hlen'
    clear hlen'
    obtain ⟨x0, g0⟩ := fld hg hxl 0 _ rfl 2 0 1 rfl rfl cellsOf_2
    obtain ⟨a0, e0, o0⟩ := (Kn.int Try.underlying2).rd g0
    have e0' : [c0] = [(.int .i64 a0 : Value)] := e0
    simp only [List.cons.injEq, and_true] at e0'
    obtain rfl := e0'
    obtain ⟨x1, g1⟩ := fld hg hxl 1 _ rfl 2 1 1 rfl rfl cellsOf_2
    obtain ⟨a1, e1, o1⟩ := (Kn.int Try.underlying2).rd g1
    have e1' : [c1] = [(.int .i64 a1 : Value)] := e1
    simp only [List.cons.injEq, and_true] at e1'
    obtain rfl := e1'
    obtain ⟨x2, g2⟩ := fld hg hxl 2 _ rfl 2 2 1 rfl rfl cellsOf_2
    obtain ⟨a2, e2, o2⟩ := (Kn.int Try.underlying2).rd g2
    have e2' : [c2] = [(.int .i64 a2 : Value)] := e2
    simp only [List.cons.injEq, and_true] at e2'
    obtain rfl := e2'
    obtain ⟨x3, g3⟩ := fld hg hxl 3 _ rfl 2 3 1 rfl rfl cellsOf_2
    obtain ⟨a3, e3, o3⟩ := (Kn.int Try.underlying2).rd g3
    have e3' : [c3] = [(.int .i64 a3 : Value)] := e3
    simp only [List.cons.injEq, and_true] at e3'
    obtain rfl := e3'
    exact ⟨⟨a0, a1, a2, a3⟩, rfl, ⟨o0, o1, o2, o3⟩⟩
structure A106 where
  f0 : ByteArray
  f1 : Int
def A106.l (a : A106) : List Value := [.string a.f0, .int .i64 a.f1]
def k106 : Kn Try.prog 106 A106 where
  cells := A106.l
  ok a := (Kn.str Try.underlying9).ok a.f0 ∧ (Kn.int Try.underlying2).ok a.f1
  rd := by
    intro H enc w base spare held fuel cs x h
    obtain ⟨xs, m, _, _, hlen, hxl, hg⟩ := DataW.trod_struct Try.underlying106 h
    have hlen' : cs.length = 2 := hlen.trans (by kernel_rfl)
    clear hlen h
    obtain ⟨c0, c1, rfl⟩ := len_2 hlen'
    clear hlen'
    obtain ⟨x0, g0⟩ := fld hg hxl 0 _ rfl 9 0 1 rfl rfl cellsOf_9
    obtain ⟨a0, e0, o0⟩ := (Kn.str Try.underlying9).rd g0
    have e0' : [c0] = [(.string a0 : Value)] := e0
    simp only [List.cons.injEq, and_true] at e0'
    obtain rfl := e0'
    obtain ⟨x1, g1⟩ := fld hg hxl 1 _ rfl 2 1 1 rfl rfl cellsOf_2
    obtain ⟨a1, e1, o1⟩ := (Kn.int Try.underlying2).rd g1
    have e1' : [c1] = [(.int .i64 a1 : Value)] := e1
    simp only [List.cons.injEq, and_true] at e1'
    obtain rfl := e1'
    exact ⟨⟨a0, a1⟩, rfl, ⟨o0, o1⟩⟩
def d106 : Kd A106 := Kp.plain 2 A106.l (fun _ => rfl) (by
  intro x u hu
  simp only [A106.l, List.mem_cons, List.not_mem_nil, or_false] at hu
  rcases hu with rfl | rfl <;> rfl)
end Go.Proofs.Ytncnhhnbjmpomaa
namespace Go.Proofs.Ytncnhhnbjmpomaa
open Go.RowKit Go.Proofs.Rk Go.Proofs.YtncnhhnbjmpomaaW.PrintWords
set_option linter.unusedVariables false
def toS (x : A106) : Q.S106 := ⟨x.f0, x.f1⟩
theorem C_toS {w : World} {A : Option Addr} {n : Nat} {xs : List A106} (h : Kd.C d106 w A n xs) : Kd.C Q.k106 w A n (xs.map toS) := by
  obtain ⟨h1, h2, h3⟩ := h
  refine ⟨by simpa using h1, h2, fun hn => ?_⟩
  obtain ⟨ad, e, hc⟩ := h3 hn
  refine ⟨ad, e, fun j q hj => ?_⟩
  rw [List.getElem?_map] at hj
  cases hx : xs[j]? with
  | none => rw [hx] at hj; cases hj
  | some x =>
    rw [hx] at hj
    cases hj
    obtain ⟨c, hc1, hc2, hc3⟩ := hc j x hx
    obtain rfl : c = A106.l x := hc2
    exact ⟨A106.l x, rfl, Q.k106_mk w (toS x), hc3⟩
theorem walk9 (a : Int) (c : A58) (ad : Option Addr) (xs : List A106) (cap : Nat) (w : World) (ha : (Lit.int .i64 a).wf = true) (hc : k58.ok c) (h : RdSl w k106.cells k106.ok 2 ad xs cap) (hs : xs.length * 24 ≤ 140737488351232) :
    Calls Try.prog 9 #[.int .i64 a, .agg (A58.l c).toArray, .slice ad xs.length cap] w fun e w' => e = .returned (.bool true) ∧ Below w.heap.size w w' := by
  have B : ∀ {x : Int}, (Lit.int .i64 x).wf = true → Q.inR x := fun h => bounds_i64 h
  obtain ⟨k, hk⟩ := Q.shares_law a c.f0 c.f1 c.f2 c.f3 (xs.map toS) (B ha) (B hc.1) (B hc.2.1) (B hc.2.2.1)
  have hC : Kd.C d106 w ad xs.length xs := Kp.C_of_rd (by decide) h
  have := Q.souklaw12_PartShares.calls k a c.f0 c.f1 c.f2 c.f3 ad cap (xs.map toS) true w (by rw [List.length_map]; exact C_toS hC) (by rw [List.length_map]; exact Kp.cap_of_rd h) hk
  rw [List.length_map] at this
  exact this
end Go.Proofs.Ytncnhhnbjmpomaa
