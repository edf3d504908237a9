import Derived.Test.YtliacfjdenfldaaAttE
import Derived.RegionTactic
import Derived.ChangeAlike
import Derived.Deep.RegionHeld3
namespace Go.Proofs.Ytliacfjdenfldaa
open Go.RowKit
set_option linter.unusedSimpArgs false
set_option linter.unusedVariables false

theorem smallB5 {n t a x y : Int} (h : smallB [n, t, a, x, y] = true) : (-4611686018427387904 ≤ n ∧ n ≤ 4611686018427387904) ∧ (-4611686018427387904 ≤ t ∧ t ≤ 4611686018427387904) ∧ (-4611686018427387904 ≤ a ∧ a ≤ 4611686018427387904) ∧ (-4611686018427387904 ≤ x ∧ x ≤ 4611686018427387904) ∧ (-4611686018427387904 ≤ y ∧ y ≤ 4611686018427387904) := by
  simp [smallB, sm] at h
  omega


def hrGo (s kd : ByteArray) (att a : Int) : Bool := !isOver s && (kd.toList == [97, 99, 99, 101, 112, 116, 101, 100] || kd.toList == [100, 101, 99, 108, 105, 110, 101, 100] || (kd.toList == [117, 110, 107, 110, 111, 119, 110] && s.toList == [113, 117, 101, 114, 105, 101, 100] && att == a))
def hrS (s kd : ByteArray) (att a : Int) : ByteArray := if isOver s = true then s else if kd.toList = [97, 99, 99, 101, 112, 116, 101, 100] then ⟨#[112, 97, 105, 100]⟩ else if kd.toList = [100, 101, 99, 108, 105, 110, 101, 100] then ⟨#[98, 97, 99, 107]⟩ else if kd.toList = [117, 110, 107, 110, 111, 119, 110] ∧ s.toList = [113, 117, 101, 114, 105, 101, 100] ∧ att = a then ⟨#[114, 101, 97, 100, 121]⟩ else s
def hrUn (s kd : ByteArray) (att a : Int) : Bool := !isOver s && !(kd.toList == [97, 99, 99, 101, 112, 116, 101, 100]) && !(kd.toList == [100, 101, 99, 108, 105, 110, 101, 100]) && (kd.toList == [117, 110, 107, 110, 111, 119, 110] && s.toList == [113, 117, 101, 114, 105, 101, 100] && att == a)
def hrN (s kd : ByteArray) (n t att a now : Int) : Int := if hrUn s kd att a then now + bk t else n
def hrT (s kd : ByteArray) (t att a : Int) : Int := if hrUn s kd att a then t + 1 else t
theorem hearV_eq (k pa c : ByteArray) (am : Int) (s : ByteArray) (n t a : Int) (kd : ByteArray) (att now : Int) :
    hearV k pa c am s n t a kd att now = .tuple #[.agg #[.string k, .string pa, .string c, .int .i64 am, .string (hrS s kd att a), .int .i64 (hrN s kd n t att a now), .int .i64 (hrT s kd t att a), .int .i64 a], .bool (hrGo s kd att a)] := by
  unfold hearV hrS hrN hrT hrGo hrUn
  by_cases h0 : isOver s = true
  · simp [h0]
  · simp only [h0, if_false]
    by_cases h1 : kd.toList = [97, 99, 99, 101, 112, 116, 101, 100]
    · simp [h0, h1]
    · by_cases h2 : kd.toList = [100, 101, 99, 108, 105, 110, 101, 100]
      · simp [h0, h1, h2]
      · by_cases h3 : kd.toList = [117, 110, 107, 110, 111, 119, 110] ∧ s.toList = [113, 117, 101, 114, 105, 101, 100] ∧ att = a
        · obtain ⟨h3, h4, h5⟩ := h3
          simp [h0, h3, h4, h5]
        · rw [if_neg h1, if_neg h2, if_neg h3, if_neg h1, if_neg h2, if_neg h3]
          have : (kd.toList == [117, 110, 107, 110, 111, 119, 110] && s.toList == [113, 117, 101, 114, 105, 101, 100] && att == a) = false := by
            simp only [Bool.and_eq_false_iff, beq_eq_false_iff_ne, ne_eq]
            by_cases g1 : kd.toList = [117, 110, 107, 110, 111, 119, 110]
            · by_cases g2 : s.toList = [113, 117, 101, 114, 105, 101, 100]
              · exact Or.inr (fun g3 => h3 ⟨g1, g2, g3⟩)
              · exact Or.inl (Or.inr g2)
            · exact Or.inl (Or.inl g1)
          simp [h0, h1, h2, this]

set_option maxHeartbeats 4000000 in
theorem law5a (k pa c : ByteArray) (am : Int) (s : ByteArray) (n t a : Int) (kd : ByteArray) (x y : Int) (w : World) (hsm : smallB [n, t, a, x, y] = true) (hkd : ¬ (100 : Int) < kd.size) :
    Calls Try.prog 5 #[payV k pa c am s n t a, .string kd, .agg #[.int .i64 x, .int .i64 y]] w fun e w' => e = .returned (.bool true) ∧ Below w.heap.size w w' := by
  obtain ⟨hn, ht, ha, hx, hy⟩ := smallB5 hsm
  have HS := hidI hsm
  clear hsm
  go_enter Try.func5, Try.ntmps5
  go_wp2_with fail
  refine (lives17_any _).mono ?_
  rintro e w1 ⟨rfl, hb1⟩
  have B1_0 := Blk.be (w := w1) (b := w.heap.size) (by repeat (first | (apply Blk.new'; (simp; done)) | apply Blk.al | apply Blk.dr)) hb1
  have B1_1 := Blk.be (w := w1) (b := w.heap.size + 1) (by repeat (first | (apply Blk.new'; (simp; done)) | apply Blk.al | apply Blk.dr)) hb1
  have HB1 : Below w.heap.size w w1 := below_step (by repeat (first | exact Below.refl _ _ | refine below_new ?_ _ | refine Below.drew ?_)) hb1
  have c1_0 := B1_0.c; have l1_0 := B1_0.lt; have f1_0 := B1_0.f
  have c1_1 := B1_1.c; have l1_1 := B1_1.lt; have f1_1 := B1_1.f
  have l1_1_1 : w.heap.size < w1.heap.size := by omega
  clear hb1
  go_wp2_with fail
  refine (small_any _ 0 [n, t, a, x, y] 5 _ (by intro i hi; rcases i with _ | _ | _ | _ | _ | i <;> simp at hi ⊢; omega) (by simp)).mono ?_
  rintro e w' ⟨rfl, rfl⟩
  rw [HS.out]
  go_wp2_with fail
  refine (step_any _ _ _ _ _ _ _ _ _ _ hn ht ha hx).mono ?_
  rintro e w2 ⟨rfl, hb2⟩
  rw [stepV_eq]
  have B2_0 := Blk.be (w := w2) (b := w.heap.size) (by repeat (first | exact B1_0 | (apply Blk.new'; (simp; done)) | apply Blk.al | apply Blk.dr)) hb2
  have B2_1 := Blk.be (w := w2) (b := w.heap.size + 1) (by repeat (first | exact B1_1 | (apply Blk.new'; (simp; done)) | apply Blk.al | apply Blk.dr)) hb2
  have B2_2 := Blk.be (w := w2) (b := w1.heap.size + 1) (by repeat (first | (apply Blk.new'; (simp; done)) | apply Blk.al | apply Blk.dr)) hb2
  have HB2 : Below w.heap.size w w2 := below_step (by repeat (first | exact HB1 | refine below_new ?_ _ | refine Below.drew ?_)) hb2
  have c2_0 := B2_0.c; have l2_0 := B2_0.lt; have f2_0 := B2_0.f
  have c2_1 := B2_1.c; have l2_1 := B2_1.lt; have f2_1 := B2_1.f
  have l2_1_1 : w.heap.size < w2.heap.size := by omega
  have c2_2 := B2_2.c; have l2_2 := B2_2.lt; have f2_2 := B2_2.f
  have l2_2_1 : w1.heap.size < w2.heap.size := by omega
  clear c1_0 l1_0 f1_0 c1_1 l1_1 f1_1 l1_1_1 hb2 HB1 B1_0 B1_1
  go_wp2_with fail
  refine (rstep_any _ _ _ _ _ _ _ _ _ _ hn ht ha hx).mono ?_
  rintro e w3 ⟨rfl, hb3⟩
  rw [stepV_eq]
  have B3_0 := Blk.be (w := w3) (b := w.heap.size) (by repeat (first | exact B2_0 | (apply Blk.new'; (simp; done)) | apply Blk.al | apply Blk.dr)) hb3
  have B3_1 := Blk.be (w := w3) (b := w.heap.size + 1) (by repeat (first | exact B2_1 | (apply Blk.new'; (simp; done)) | apply Blk.al | apply Blk.dr)) hb3
  have B3_2 := Blk.be (w := w3) (b := w1.heap.size + 1) (by repeat (first | exact B2_2 | (apply Blk.new'; (simp; done)) | apply Blk.al | apply Blk.dr)) hb3
  have B3_3 := Blk.be (w := w3) (b := w2.heap.size) (by repeat (first | (apply Blk.new'; (simp; done)) | apply Blk.al | apply Blk.dr)) hb3
  have B3_4 := Blk.be (w := w3) (b := w2.heap.size + 1) (by repeat (first | (apply Blk.new'; (simp; done)) | apply Blk.al | apply Blk.dr)) hb3
  have HB3 : Below w.heap.size w w3 := below_step (by repeat (first | exact HB2 | refine below_new ?_ _ | refine Below.drew ?_)) hb3
  have c3_0 := B3_0.c; have l3_0 := B3_0.lt; have f3_0 := B3_0.f
  have c3_1 := B3_1.c; have l3_1 := B3_1.lt; have f3_1 := B3_1.f
  have l3_1_1 : w.heap.size < w3.heap.size := by omega
  have c3_2 := B3_2.c; have l3_2 := B3_2.lt; have f3_2 := B3_2.f
  have l3_2_1 : w1.heap.size < w3.heap.size := by omega
  have c3_3 := B3_3.c; have l3_3 := B3_3.lt; have f3_3 := B3_3.f
  have c3_4 := B3_4.c; have l3_4 := B3_4.lt; have f3_4 := B3_4.f
  have l3_4_1 : w2.heap.size < w3.heap.size := by omega
  clear c2_0 l2_0 f2_0 c2_1 l2_1 f2_1 l2_1_1 c2_2 l2_2 f2_2 l2_2_1 hb3 HB2 B2_0 B2_1 B2_2
  go_wp2_with fail
  refine (hear_any _ _ _ _ _ _ _ _ _ _ _ _ ht hx).mono ?_
  rintro e w4 ⟨rfl, hb4⟩
  rw [hearV_eq]
  have B4_0 := Blk.be (w := w4) (b := w.heap.size) (by repeat (first | exact B3_0 | (apply Blk.new'; (simp; done)) | apply Blk.al | apply Blk.dr)) hb4
  have B4_1 := Blk.be (w := w4) (b := w.heap.size + 1) (by repeat (first | exact B3_1 | (apply Blk.new'; (simp; done)) | apply Blk.al | apply Blk.dr)) hb4
  have B4_2 := Blk.be (w := w4) (b := w1.heap.size + 1) (by repeat (first | exact B3_2 | (apply Blk.new'; (simp; done)) | apply Blk.al | apply Blk.dr)) hb4
  have HB4 : Below w.heap.size w w4 := below_step (by repeat (first | exact HB3 | refine below_new ?_ _ | refine Below.drew ?_)) hb4
  have c4_0 := B4_0.c; have l4_0 := B4_0.lt; have f4_0 := B4_0.f
  have c4_1 := B4_1.c; have l4_1 := B4_1.lt; have f4_1 := B4_1.f
  have l4_1_1 : w.heap.size < w4.heap.size := by omega
  have c4_2 := B4_2.c; have l4_2 := B4_2.lt; have f4_2 := B4_2.f
  have l4_2_1 : w1.heap.size < w4.heap.size := by omega
  clear c3_0 l3_0 f3_0 c3_1 l3_1 f3_1 l3_1_1 c3_2 l3_2 f3_2 l3_2_1 c3_3 l3_3 f3_3 c3_4 l3_4 f3_4 l3_4_1 hb4 HB3 B3_0 B3_1 B3_2 B3_3 B3_4
  go_wp2_with fail
  refine (rhear_any _ _ _ _ _ _ _ _ _ _ _ _ ht hx).mono ?_
  rintro e w5 ⟨rfl, hb5⟩
  rw [hearV_eq]
  have B5_0 := Blk.be (w := w5) (b := w.heap.size) (by repeat (first | exact B4_0 | (apply Blk.new'; (simp; done)) | apply Blk.al | apply Blk.dr)) hb5
  have B5_1 := Blk.be (w := w5) (b := w.heap.size + 1) (by repeat (first | exact B4_1 | (apply Blk.new'; (simp; done)) | apply Blk.al | apply Blk.dr)) hb5
  have B5_2 := Blk.be (w := w5) (b := w1.heap.size + 1) (by repeat (first | exact B4_2 | (apply Blk.new'; (simp; done)) | apply Blk.al | apply Blk.dr)) hb5
  have B5_3 := Blk.be (w := w5) (b := w4.heap.size) (by repeat (first | (apply Blk.new'; (simp; done)) | apply Blk.al | apply Blk.dr)) hb5
  have HB5 : Below w.heap.size w w5 := below_step (by repeat (first | exact HB4 | refine below_new ?_ _ | refine Below.drew ?_)) hb5
  have c5_0 := B5_0.c; have l5_0 := B5_0.lt; have f5_0 := B5_0.f
  have c5_1 := B5_1.c; have l5_1 := B5_1.lt; have f5_1 := B5_1.f
  have l5_1_1 : w.heap.size < w5.heap.size := by omega
  have c5_2 := B5_2.c; have l5_2 := B5_2.lt; have f5_2 := B5_2.f
  have l5_2_1 : w1.heap.size < w5.heap.size := by omega
  have c5_3 := B5_3.c; have l5_3 := B5_3.lt; have f5_3 := B5_3.f
  clear c4_0 l4_0 f4_0 c4_1 l4_1 f4_1 l4_1_1 c4_2 l4_2 f4_2 l4_2_1 hb5 HB4 B4_0 B4_1 B4_2
  go_wp2_with fail
  go_region_held3 (fun w' => Below (w5.alloc (.cells #[.string k, .string pa, .string c, .int .i64 am, .string (hrS s kd y a), .int .i64 (hrN s kd n t y a x), .int .i64 (hrT s kd t y a), .int .i64 a] 32)).heap.size (w5.alloc (.cells #[.string k, .string pa, .string c, .int .i64 am, .string (hrS s kd y a), .int .i64 (hrN s kd n t y a x), .int .i64 (hrT s kd t y a), .int .i64 a] 32)) w' ∧ (∀ b o, b < (w5.alloc (.cells #[.string k, .string pa, .string c, .int .i64 am, .string (hrS s kd y a), .int .i64 (hrN s kd n t y a x), .int .i64 (hrT s kd t y a), .int .i64 a] 32)).heap.size → w'.cell? ⟨b, o, none⟩ = (w5.alloc (.cells #[.string k, .string pa, .string c, .int .i64 am, .string (hrS s kd y a), .int .i64 (hrN s kd n t y a x), .int .i64 (hrT s kd t y a), .int .i64 a] 32)).cell? ⟨b, o, none⟩)) ((refine hold_of ?_; repeat (first | (with_reducible exact Below.refl _ _) | assumption | refine below_new ?_ _ | refine Below.drew ?_))) (first | (go_at_call 29; refine (over_any _ _ _ _ _ _ _ _ _).mono ?_; rintro e w' ⟨rfl, rfl⟩) | (go_at_call 30; refine (rover_any _ _ _ _ _ _ _ _ _).mono ?_; rintro e w' ⟨rfl, rfl⟩))
  go_wp2
  go_ret
  exact ⟨rfl, (by repeat (first | exact HB5 | refine below_new ?_ _ | refine Below.drew ?_))⟩

set_option maxHeartbeats 4000000 in
theorem law5b (k pa c : ByteArray) (am : Int) (s : ByteArray) (n t a : Int) (kd : ByteArray) (x y : Int) (w : World) (hsm : smallB [n, t, a, x, y] = true) (hkd : (100 : Int) < kd.size) :
    Calls Try.prog 5 #[payV k pa c am s n t a, .string kd, .agg #[.int .i64 x, .int .i64 y]] w fun e w' => e = .returned (.bool true) ∧ Below w.heap.size w w' := by
  have HS := hidI hsm
  clear hsm
  go_enter Try.func5, Try.ntmps5
  go_wp2_with fail
  refine (lives17_any _).mono ?_
  rintro e w1 ⟨rfl, hb1⟩
  have B1_0 := Blk.be (w := w1) (b := w.heap.size) (by repeat (first | (apply Blk.new'; (simp; done)) | apply Blk.al | apply Blk.dr)) hb1
  have B1_1 := Blk.be (w := w1) (b := w.heap.size + 1) (by repeat (first | (apply Blk.new'; (simp; done)) | apply Blk.al | apply Blk.dr)) hb1
  have HB1 : Below w.heap.size w w1 := below_step (by repeat (first | exact Below.refl _ _ | refine below_new ?_ _ | refine Below.drew ?_)) hb1
  have c1_0 := B1_0.c; have l1_0 := B1_0.lt; have f1_0 := B1_0.f
  have c1_1 := B1_1.c; have l1_1 := B1_1.lt; have f1_1 := B1_1.f
  have l1_1_1 : w.heap.size < w1.heap.size := by omega
  clear hb1
  go_wp2_with fail
  refine (small_any _ 0 [n, t, a, x, y] 5 _ (by intro i hi; rcases i with _ | _ | _ | _ | _ | i <;> simp at hi ⊢; omega) (by simp)).mono ?_
  rintro e w' ⟨rfl, rfl⟩
  rw [HS.out]
  go_wp2_with fail
  refine (lives17_any _).mono ?_
  rintro e w2 ⟨rfl, hb2⟩
  have B2_0 := Blk.be (w := w2) (b := w.heap.size) (by repeat (first | exact B1_0 | (apply Blk.new'; (simp; done)) | apply Blk.al | apply Blk.dr)) hb2
  have B2_1 := Blk.be (w := w2) (b := w.heap.size + 1) (by repeat (first | exact B1_1 | (apply Blk.new'; (simp; done)) | apply Blk.al | apply Blk.dr)) hb2
  have HB2 : Below w.heap.size w w2 := below_step (by repeat (first | exact HB1 | refine below_new ?_ _ | refine Below.drew ?_)) hb2
  have c2_0 := B2_0.c; have l2_0 := B2_0.lt; have f2_0 := B2_0.f
  have c2_1 := B2_1.c; have l2_1 := B2_1.lt; have f2_1 := B2_1.f
  have l2_1_1 : w.heap.size < w2.heap.size := by omega
  clear c1_0 l1_0 f1_0 c1_1 l1_1 f1_1 l1_1_1 hb2 HB1 B1_0 B1_1
  go_wp2
  go_ret
  exact ⟨rfl, (by repeat (first | exact HB2 | refine below_new ?_ _ | refine Below.drew ?_))⟩

set_option maxHeartbeats 4000000 in
theorem law5c (k pa c : ByteArray) (am : Int) (s : ByteArray) (n t a : Int) (kd : ByteArray) (x y : Int) (w : World) (hsm : smallB [n, t, a, x, y] = false) :
    Calls Try.prog 5 #[payV k pa c am s n t a, .string kd, .agg #[.int .i64 x, .int .i64 y]] w fun e w' => e = .returned (.bool true) ∧ Below w.heap.size w w' := by
  have HS := hidI hsm
  clear hsm
  go_enter Try.func5, Try.ntmps5
  go_wp2_with fail
  refine (lives17_any _).mono ?_
  rintro e w1 ⟨rfl, hb1⟩
  have B1_0 := Blk.be (w := w1) (b := w.heap.size) (by repeat (first | (apply Blk.new'; (simp; done)) | apply Blk.al | apply Blk.dr)) hb1
  have B1_1 := Blk.be (w := w1) (b := w.heap.size + 1) (by repeat (first | (apply Blk.new'; (simp; done)) | apply Blk.al | apply Blk.dr)) hb1
  have HB1 : Below w.heap.size w w1 := below_step (by repeat (first | exact Below.refl _ _ | refine below_new ?_ _ | refine Below.drew ?_)) hb1
  have c1_0 := B1_0.c; have l1_0 := B1_0.lt; have f1_0 := B1_0.f
  have c1_1 := B1_1.c; have l1_1 := B1_1.lt; have f1_1 := B1_1.f
  have l1_1_1 : w.heap.size < w1.heap.size := by omega
  clear hb1
  go_wp2_with fail
  refine (small_any _ 0 [n, t, a, x, y] 5 _ (by intro i hi; rcases i with _ | _ | _ | _ | _ | i <;> simp at hi ⊢; omega) (by simp)).mono ?_
  rintro e w' ⟨rfl, rfl⟩
  rw [HS.out]
  go_wp2_with fail
  refine (lives17_any _).mono ?_
  rintro e w2 ⟨rfl, hb2⟩
  have B2_0 := Blk.be (w := w2) (b := w.heap.size) (by repeat (first | exact B1_0 | (apply Blk.new'; (simp; done)) | apply Blk.al | apply Blk.dr)) hb2
  have B2_1 := Blk.be (w := w2) (b := w.heap.size + 1) (by repeat (first | exact B1_1 | (apply Blk.new'; (simp; done)) | apply Blk.al | apply Blk.dr)) hb2
  have HB2 : Below w.heap.size w w2 := below_step (by repeat (first | exact HB1 | refine below_new ?_ _ | refine Below.drew ?_)) hb2
  have c2_0 := B2_0.c; have l2_0 := B2_0.lt; have f2_0 := B2_0.f
  have c2_1 := B2_1.c; have l2_1 := B2_1.lt; have f2_1 := B2_1.f
  have l2_1_1 : w.heap.size < w2.heap.size := by omega
  clear c1_0 l1_0 f1_0 c1_1 l1_1 f1_1 l1_1_1 hb2 HB1 B1_0 B1_1
  go_wp2
  go_ret
  exact ⟨rfl, (by repeat (first | exact HB2 | refine below_new ?_ _ | refine Below.drew ?_))⟩

theorem law5 (k pa c : ByteArray) (am : Int) (s : ByteArray) (n t a : Int) (kd : ByteArray) (x y : Int) (w : World) :
    Calls Try.prog 5 #[payV k pa c am s n t a, .string kd, .agg #[.int .i64 x, .int .i64 y]] w fun e w' => e = .returned (.bool true) ∧ Below w.heap.size w w' := by
  by_cases hsm : smallB [n, t, a, x, y] = true
  · by_cases hkd : (100 : Int) < kd.size
    · exact law5b k pa c am s n t a kd x y w hsm hkd
    · exact law5a k pa c am s n t a kd x y w hsm hkd
  · exact law5c k pa c am s n t a kd x y w (by simpa using hsm)

end Go.Proofs.Ytliacfjdenfldaa
