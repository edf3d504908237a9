import Derived.Test.YtliacfjdenfldaaOe
import Derived.Laws.BytesArg
namespace Go.Proofs.Ytliacfjdenfldaa
open Go.RowKit Go.Proofs.Kq
open Go.Proofs.YtliacfjdenfldaaW.PrintWords (pw_cell_below step_append_cells print_append_cells Kd Kd.C Kd.C_below)
open Go.Proofs.YtliacfjdenfldaaW.PrintLast
set_option linter.unusedSimpArgs false
set_option linter.unusedVariables false

def wX8 (x : A68) : List Int := if longX x = true then [] else encX x
def wB (xs : List A68) : List Int := xs.flatMap wX8
theorem wB_snoc (xs : List A68) (x : A68) : wB (xs ++ [x]) = wB xs ++ wX8 x := by simp [wB]
theorem wB_enc : ∀ xs : List A68, longL xs = false → wB xs = encL xs
  | [], _ => rfl
  | x :: xs, h => by
    have h' : longX x = false ∧ longL xs = false := by simpa [longL] using h
    have := wB_enc xs h'.2
    simp only [wB, encL, List.flatMap_cons] at this ⊢
    rw [this]; simp [wX8, h'.1]
theorem wX8_len (x : A68) : (wX8 x).length ≤ wX x + 8 := by
  unfold wX8; split
  · simp
  · exact encX_len x
theorem wB_len : ∀ xs : List A68, (wB xs).length ≤ smN xs + 8 * xs.length
  | [] => by simp [wB]
  | x :: xs => by
    have h1 := wX8_len x
    have h2 := wB_len xs
    simp only [wB, smN, List.flatMap_cons, List.length_append, List.map_cons, List.sum_cons, List.length_cons] at *
    omega
theorem wT_text (bs : List Int) (x : A68) (h : x.f0 = true) : wT bs x.f2 = bs ++ wX8 x := by
  unfold wT wX8 longX encX
  by_cases hl : 65535 < x.f2.size <;> simp [h, hl]
theorem wT_int (bs : List Int) (x : A68) (h : x.f0 = false) : bs ++ lowI 8 (IntKind.u64.wrap x.f1) = bs ++ wX8 x := by simp [wX8, longX, encX, h]
/- how many, wrapped -/
set_option maxHeartbeats 2000000 in
theorem osmall_many (A : Option Addr) (c : Nat) (xs : List A68) (w : World) (hC : Kd.C d68 w A xs.length xs) (hl : 200 < xs.length) (hs : ∀ x ∈ xs, x.f2.size ≤ 140737488351232) (hy : xs.length ≤ 140737488351232) :
    Calls Try.prog 37 #[.slice A xs.length c] w fun e w' => e = .returned (.bool false) ∧ Below w.heap.size w w' := by
  obtain ⟨b, off, rfl, hx⟩ := Kp.C_open hC (by omega) (by decide)
  have HX := hidI hx
  have HS := hidI hs
  clear hx hC hs
  go_enter Try.func37, Try.ntmps37
  go_wp2
  go_loopw [3, 8] (fun n i wr => ∃ k : Nat, k ≤ xs.length ∧ i = .int .i64 k ∧ ∃ m : Int, n = .int .i64 m ∧ Below w.heap.size w wr) (fun _ i _ => xs.length - (intOf i).toNat)
  case atStart => exact ⟨0, Nat.zero_le _, rfl, 0, rfl, Below.refl _ _⟩
  case round =>
    obtain ⟨k, hk, rfl, m, rfl, hb⟩ := hrel
    by_cases hlt : k < xs.length
    · obtain ⟨x, hxe⟩ : ∃ x, x = xs[k] := ⟨_, rfl⟩
      have q0 : wr.cell? ⟨b, off + k * 3, none⟩ = some (.bool x.f0) := by rw [hxe]; exact pw_cell_below hb (HX.out k hlt 0 _ rfl)
      have q1 : wr.cell? ⟨b, off + k * 3 + 1, none⟩ = some (.int .i64 x.f1) := by rw [hxe]; exact pw_cell_below hb (HX.out k hlt 1 _ rfl)
      have q2 : wr.cell? ⟨b, off + k * 3 + 2, none⟩ = some (.string x.f2) := by rw [hxe]; exact pw_cell_below hb (HX.out k hlt 2 _ rfl)
      have hxs : x.f2.size ≤ 140737488351232 := by rw [hxe]; exact HS.out _ (List.getElem_mem _)
      have hb2 := below_new hb (.cells #[.bool x.f0, .int .i64 x.f1, .string x.f2] 68)
      clear hxe hb
      go_wp2
      go_roundw
      case rel => exact ⟨k + 1, by omega, by go_num, _, rfl, hb2⟩
      case measure => simp [intOf]; omega
    · have e : k = xs.length := by omega
      clear e
      have t3 : decide ((xs.length : Int) ≤ 200) = false := by simp; omega
      by_cases hle : m ≤ 200000
      · go_wp2
        go_ret
        exact ⟨rfl, hb⟩
      · go_wp2
        go_ret
        exact ⟨rfl, hb⟩
end Go.Proofs.Ytliacfjdenfldaa
