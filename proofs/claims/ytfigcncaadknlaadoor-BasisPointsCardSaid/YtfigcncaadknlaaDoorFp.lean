/- BasisPoints' walk. -/
import Derived.Test.YtfigcncaadknlaaDoorFo
namespace Go.Proofs.YtfigcncaadknlaaDoor
open Go.RowKit
set_option linter.unusedVariables false
set_option linter.unusedSimpArgs false
def Tab (w : World) : Prop := Lib.TabIs Tryd.prog w "internal/strconv.uint64pow10" .u64 Lib.pow10Tab
theorem tab_below {w w' : World} (h : Tab w) (hb : Below w.heap.size w w') : Tab w' := by
  unfold Tab Lib.TabIs World.var? at h ⊢
  obtain ⟨g, hg⟩ : ∃ g, Tryd.prog.globalNamed "internal/strconv.uint64pow10" = some g := by
    rcases hh : Tryd.prog.globalNamed "internal/strconv.uint64pow10" with _ | g
    · rw [hh] at h; cases h
    · exact ⟨g, rfl⟩
  rw [hg] at h ⊢
  simp only [Option.bind_some] at h ⊢
  have hlt : g < w.heap.size := by
    rcases Nat.lt_or_ge g w.heap.size with h' | h'
    · exact h'
    · rw [Array.getElem?_eq_none h'] at h; cases h
  rw [hb.block g hlt]
  exact h
theorem ptF_code (b : Nat) : (ptF b).2 = 0 ∨ (ptF b).2 = 1 ∨ (ptF b).2 = 2 := by
  unfold ptF
  repeat' split
  all_goals simp
set_option maxHeartbeats 4000000 in
theorem points_law (b : Nat) (h : b < 2 ^ 64) (w : World) (hT : Tab w) : Calls Tryd.prog 3 #[.int .u64 (b : Int)] w (LvP w) := by
  have hl := lives_any w
  have fb := fun w => from_run b w
  have h8 := fun w => points_any b h w
  have h9 := fun w => rpoints_any b h w
  have h10 := fun w => Of_any b h w
  have h11 := fun w => kind_any b h w
  have h12 := fun (w1 : World) (hb : Below w.heap.size w w1) => text_any b h w1 (fun _ => tab_below hT hb)
  have h13 := fun w => rtext_any b h w
  have hcode := ptF_code b
  obtain ⟨p, hp⟩ : ∃ p, p = ptF b := ⟨_, rfl⟩
  rw [← hp] at h8 h9 hcode
  obtain ⟨k, hk⟩ : ∃ k, k = kd b := ⟨_, rfl⟩
  rw [← hk] at h10 h11
  obtain ⟨T, hTx⟩ : ∃ T, T = textF b := ⟨_, rfl⟩
  simp only [← hTx] at h12
  rw [← hTx] at h13
  clear hp hk hTx hT
  obtain ⟨p1, p2⟩ := p
  have hcode' : p2 = 0 ∨ p2 = 1 ∨ p2 = 2 := hcode
  clear hcode
  rcases hcode' with rfl | rfl | rfl
  all_goals
    go_enter Tryd.func3, Tryd.ntmps3
    go_wp2_with fail
    with_reducible refine hl.mono ?_
    rintro e w1 ⟨rfl, hb1⟩
    simp only []
    go_wp2_with fail
    with_reducible refine (h8 _).mono ?_
    rintro e w2 ⟨rfl, rfl⟩
    simp only []
    go_wp2_with fail
    with_reducible refine (h9 _).mono ?_
    rintro e w2 ⟨rfl, rfl⟩
    simp only []
    go_wp2_with fail
    with_reducible refine (h10 _).mono ?_
    rintro e w2 ⟨rfl, rfl⟩
    simp only []
    go_wp2_with fail
    with_reducible refine (h11 _).mono ?_
    rintro e w2 ⟨rfl, rfl⟩
    simp only []
    go_wp2_with fail
    have hb2 := below_new hb1 (.cells #[.int .i64 0, .int .i64 1, .int .i64 2] 26)
    with_reducible refine (h12 _ hb2).mono ?_
    rintro e w3 ⟨rfl, hb3⟩
    simp only []
    go_wp2_with fail
    with_reducible refine (h13 _).mono ?_
    rintro e w4 ⟨rfl, hb4⟩
    have hfin : Hid (LvP w (.returned (.bool true)) w4) := hidI ⟨rfl, below_step (below_step hb2 hb3) hb4⟩
    clear hb1 hb2 hb3 hb4
    simp only []
    go_wp2_with fail
    go_ret
    exact hfin.out
theorem walk3 (a : Int) (a0 : 0 ≤ a) (a1 : a ≤ 18446744073709551615) (w : World) (hT : Tab w) : Calls Tryd.prog 3 #[.int .u64 a] w (LvP w) := by
  have := points_law a.toNat (by omega) w hT
  rwa [Int.toNat_of_nonneg a0] at this
end Go.Proofs.YtfigcncaadknlaaDoor
