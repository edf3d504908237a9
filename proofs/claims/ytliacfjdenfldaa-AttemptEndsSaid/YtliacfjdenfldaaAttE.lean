import Derived.Test.YtliacfjdenfldaaAttB
import Derived.Test.YtliacfjdenfldaaAttD
import Derived.RegionTactic
import Derived.ChangeAlike
namespace Go.Proofs.Ytliacfjdenfldaa
open Go.RowKit

def stGo (s : ByteArray) (n now : Int) : Bool := !(isOver s || decide (now < n))
def stS (s : ByteArray) (n now : Int) : ByteArray := if stGo s n now then (if s.toList = sReady then ⟨#[97, 115, 107, 101, 100]⟩ else if s.toList = sAsked then ⟨#[113, 117, 101, 114, 105, 101, 100]⟩ else s) else s
def stN (s : ByteArray) (n t now : Int) : Int := if stGo s n now then (if s.toList = sReady then now + 2 else if s.toList = sAsked then now + 2 else now + (2 + bk t)) else n
def stT (s : ByteArray) (n t now : Int) : Int := if stGo s n now then (if s.toList = sReady then t else if s.toList = sAsked then t else t + 1) else t
def stA (s : ByteArray) (n a now : Int) : Int := if stGo s n now then a + 1 else a
def rqS (s : ByteArray) (n now : Int) (x : ByteArray) : ByteArray := if stGo s n now then x else ⟨#[]⟩
def rqN (s : ByteArray) (n now : Int) (x : Int) : Int := if stGo s n now then x else 0
def rqK (s : ByteArray) (n now : Int) : ByteArray := if stGo s n now then (if s.toList = sReady then ⟨#[112, 97, 121]⟩ else ⟨#[113, 117, 101, 114, 121]⟩) else ⟨#[]⟩

theorem stepV_eq (k pa c : ByteArray) (am : Int) (s : ByteArray) (n t a now : Int) :
    stepV k pa c am s n t a now = .tuple #[.agg #[.string k, .string pa, .string c, .int .i64 am, .string (stS s n now), .int .i64 (stN s n t now), .int .i64 (stT s n t now), .int .i64 (stA s n a now)], .agg #[.string (rqK s n now), .string (rqS s n now k), .string (rqS s n now pa), .string (rqS s n now c), .int .i64 (rqN s n now am), .int .i64 (rqN s n now (a + 1))], .bool (stGo s n now)] := by
  by_cases h : stGo s n now = true
  · have h' := h
    simp only [stGo, Bool.not_eq_true', Bool.or_eq_false_iff, decide_eq_false_iff_not] at h'
    unfold stepV stS stN stT stA rqS rqN rqK
    rw [if_neg (by simp [h'.1, h'.2])]
    simp only [h, if_true]
    split
    · rfl
    · split <;> rfl
  · have h' := h
    simp only [stGo, Bool.not_eq_true', Bool.or_eq_false_iff, decide_eq_false_iff_not, not_and, Decidable.not_not] at h'
    unfold stepV stS stN stT stA rqS rqN rqK
    rw [if_pos (by by_cases g : isOver s = true; exact Or.inl g; exact Or.inr (h' (by simpa using g)))]
    simp only [h]
    rfl


theorem l17a : stepV ⟨#[107]⟩ ⟨#[]⟩ ⟨#[]⟩ 0 ⟨#[114, 101, 97, 100, 121]⟩ 0 0 0 5 = .tuple #[payV ⟨#[107]⟩ ⟨#[]⟩ ⟨#[]⟩ 0 ⟨#[97, 115, 107, 101, 100]⟩ 7 0 1, reqV ⟨#[112, 97, 121]⟩ ⟨#[107]⟩ ⟨#[]⟩ ⟨#[]⟩ 0 1, .bool true] := by
  simp [stepV, isOver, go_sem]
theorem l17b : stepV ⟨#[107]⟩ ⟨#[]⟩ ⟨#[]⟩ 0 ⟨#[97, 115, 107, 101, 100]⟩ 7 0 1 6 = .tuple #[payV ⟨#[107]⟩ ⟨#[]⟩ ⟨#[]⟩ 0 ⟨#[97, 115, 107, 101, 100]⟩ 7 0 1, reqV ⟨#[]⟩ ⟨#[]⟩ ⟨#[]⟩ ⟨#[]⟩ 0 0, .bool false] := by
  simp [stepV, isOver, go_sem]
theorem l17c : stepV ⟨#[107]⟩ ⟨#[]⟩ ⟨#[]⟩ 0 ⟨#[97, 115, 107, 101, 100]⟩ 7 0 1 7 = .tuple #[payV ⟨#[107]⟩ ⟨#[]⟩ ⟨#[]⟩ 0 ⟨#[113, 117, 101, 114, 105, 101, 100]⟩ 9 0 2, reqV ⟨#[113, 117, 101, 114, 121]⟩ ⟨#[107]⟩ ⟨#[]⟩ ⟨#[]⟩ 0 2, .bool true] := by
  simp [stepV, isOver, go_sem]


set_option maxHeartbeats 2000000 in
theorem lives17_any (w : World) :
    Calls Try.prog 23 #[] w fun e w' => e = .returned (.bool true) ∧ Below w.heap.size w w' := by
  go_enter Try.func23, Try.ntmps23
  go_wp2_with fail
  refine (step_any _ _ _ _ _ _ _ _ _ _ (by omega) (by omega) (by omega) (by omega)).mono ?_
  rintro e w1 ⟨rfl, hb1⟩
  rw [l17a]
  have HB1 : Below w.heap.size w w1 := below_step (by repeat (first | exact Below.refl _ _ | refine below_new ?_ _ | refine Below.drew ?_)) hb1
  clear hb1
  go_wp2_with fail
  refine (step_any _ _ _ _ _ _ _ _ _ _ (by omega) (by omega) (by omega) (by omega)).mono ?_
  rintro e w2 ⟨rfl, hb2⟩
  rw [l17b]
  have B2_0 := Blk.be (w := w2) (b := w1.heap.size) (by repeat (first | (apply Blk.new'; (simp; done)) | apply Blk.al | apply Blk.dr)) hb2
  have B2_1 := Blk.be (w := w2) (b := w1.heap.size + 1) (by repeat (first | (apply Blk.new'; (simp; done)) | apply Blk.al | apply Blk.dr)) hb2
  have HB2 : Below w.heap.size w w2 := below_step (by repeat (first | exact HB1 | refine below_new ?_ _ | refine Below.drew ?_)) hb2
  have c2_0 := B2_0.c; have l2_0 := B2_0.lt; have f2_0 := B2_0.f
  have c2_1 := B2_1.c; have l2_1 := B2_1.lt; have f2_1 := B2_1.f
  have l2_1_1 : w1.heap.size < w2.heap.size := by omega
  clear hb2 HB1
  go_wp2_with fail
  refine (step_any _ _ _ _ _ _ _ _ _ _ (by omega) (by omega) (by omega) (by omega)).mono ?_
  rintro e w3 ⟨rfl, hb3⟩
  rw [l17c]
  have B3_0 := Blk.be (w := w3) (b := w1.heap.size) (by repeat (first | exact B2_0 | (apply Blk.new'; (simp; done)) | apply Blk.al | apply Blk.dr)) hb3
  have B3_1 := Blk.be (w := w3) (b := w1.heap.size + 1) (by repeat (first | exact B2_1 | (apply Blk.new'; (simp; done)) | apply Blk.al | apply Blk.dr)) hb3
  have HB3 : Below w.heap.size w w3 := below_step (by repeat (first | exact HB2 | refine below_new ?_ _ | refine Below.drew ?_)) hb3
  have c3_0 := B3_0.c; have l3_0 := B3_0.lt; have f3_0 := B3_0.f
  have c3_1 := B3_1.c; have l3_1 := B3_1.lt; have f3_1 := B3_1.f
  have l3_1_1 : w1.heap.size < w3.heap.size := by omega
  clear c2_0 l2_0 f2_0 c2_1 l2_1 f2_1 l2_1_1 hb3 HB2 B2_0 B2_1
  go_wp2
  go_ret
  exact ⟨rfl, (by repeat (first | exact HB3 | refine below_new ?_ _ | refine Below.drew ?_))⟩

def sm (n : Int) : Bool := !(decide (n < -4611686018427387904) || decide (4611686018427387904 < n))
def smallB (l : List Int) : Bool := l.all sm
theorem sm_true {n : Int} (h1 : ¬ n < -4611686018427387904) (h2 : ¬ 4611686018427387904 < n) : sm n = true := by simp [sm]; omega

set_option maxHeartbeats 2000000 in
theorem small_any (b off : Nat) (zs : List Int) (c : Nat) (w : World) (hc : ∀ i, i < zs.length → w.cell? ⟨b, off + i, none⟩ = some (.int .i64 (zs.getD i 0))) (hl : zs.length ≤ 1000) :
    Calls Try.prog 24 #[.slice (some ⟨b, off, none⟩) zs.length c] w fun e w' => e = .returned (.bool (smallB zs)) ∧ w = w' := by
  have HC := hidI hc
  clear hc
  go_enter Try.func24, Try.ntmps24
  go_wp2
  go_loop [7] (fun i => ∃ k : Nat, k ≤ zs.length ∧ i = .int .i64 k ∧ Hid (∀ j, j < k → sm (zs.getD j 0) = true)) (fun i => zs.length - (intOf i).toNat)
  case atStart => exact ⟨0, Nat.zero_le _, rfl, hidI (fun j h => absurd h (by omega))⟩
  case round =>
    obtain ⟨k, hk, rfl, hall⟩ := hrel
    by_cases hlt : k < zs.length
    · have hcell := HC.out k hlt
      obtain ⟨z, hz⟩ : ∃ z, z = zs.getD k 0 := ⟨_, rfl⟩
      rw [← hz] at hcell
      have HZ := hidI hz
      clear hz
      by_cases h1 : z < -4611686018427387904
      · go_wp2
        go_ret
        exact ⟨ret_bool (by
          symm
          simp only [smallB, List.all_eq_false]
          refine ⟨z, ?_, by simp [sm, h1]⟩
          rw [HZ.out, getD_lt _ _ hlt]; exact List.getElem_mem hlt), rfl⟩
      by_cases h2 : 4611686018427387904 < z
      · go_wp2
        go_ret
        exact ⟨ret_bool (by
          symm
          simp only [smallB, List.all_eq_false]
          refine ⟨z, ?_, by simp [sm, h2]⟩
          rw [HZ.out, getD_lt _ _ hlt]; exact List.getElem_mem hlt), rfl⟩
      · go_wp2
        go_round
        case rel => exact ⟨k + 1, by omega, by go_num, hidI (fun j hj => by
          by_cases e : j < k
          · exact hall.out j e
          · obtain rfl : j = k := by omega
            rw [← HZ.out]; exact sm_true h1 h2)⟩
        case measure => simp [intOf]; omega
    · go_wp2
      go_ret
      exact ⟨ret_bool (by
        symm
        simp only [smallB, List.all_eq_true]
        intro x hx
        obtain ⟨j, hj, rfl⟩ := List.getElem_of_mem hx
        have := hall.out j (by omega)
        rwa [getD_lt _ _ hj] at this), rfl⟩

end Go.Proofs.Ytliacfjdenfldaa
