/- The lives of the three laws. -/
import Derived.Test.YtfigcncaadknlaaDoorFh
namespace Go.Proofs.YtfigcncaadknlaaDoor
open Go.RowKit
set_option linter.unusedVariables false
set_option linter.unusedSimpArgs false
theorem third_div : Ieee.double.div (floatOfInt .f64 1) (floatOfInt .f64 3) = some 4599676419421066581 := by decide +kernel
theorem third_pt : ptF 4599676419421066581 = (3333, 0) := by decide +kernel
theorem third_text : textF 4599676419421066581 = ⟨#[51, 51, 46, 51, 51, 37]⟩ := by
  unfold textF
  rw [third_pt, if_neg (by decide +kernel)]
  show (⟨(numT 3333).toArray⟩ : ByteArray) = _
  unfold numT
  rw [show 3333 / 100 = 33 from rfl, dec_two (by decide) (by decide)]
  rfl
theorem zero_div : Ieee.double.div (floatOfInt .f64 0) (floatOfInt .f64 0) = none := by decide +kernel
theorem nan_text {z : Nat} (h : Fl.inf < Fl.rg z) : textF z = ⟨#[45]⟩ := by unfold textF; rw [if_pos h]
theorem nan_pt {z : Nat} (h : Fl.inf < Fl.rg z) : ptF z = (0, 1) := by unfold ptF; rw [if_pos h]
def LvP (w : World) (e : Ending) (w' : World) : Prop := e = .returned (.bool true) ∧ Below w.heap.size w w'
theorem lives_any (w : World) : Calls Tryd.prog 6 #[] w (LvP w) := by
  have h1 := fun w => ratio_any 1 3 w
  have h2 := fun w => ratio_any 0 0 w
  have h3 := fun w => text_any 4599676419421066581 (by decide) w (fun h => by rw [third_pt] at h; cases h)
  rw [third_text] at h3
  have h4 : ∀ z, z < 2 ^ 64 → Fl.inf < Fl.rg z → ∀ w, Calls Tryd.prog 12 #[.float .f64 z] w (TxP ⟨#[45]⟩ w) := fun z hz hn w => by
    have := text_any z hz w (fun h => by rw [nan_pt hn] at h; cases h)
    rwa [nan_text hn] at this
  go_enter Tryd.func6, Tryd.ntmps6
  go_wp2_with fail
  with_reducible refine (h1 _).mono ?_
  rintro e w1 ⟨z, rfl, hz, hb1, hd, _⟩
  obtain rfl := hd _ third_div
  clear hd hz
  simp only []
  go_wp2_with fail
  with_reducible refine (h3 _).mono ?_
  rintro e w2 ⟨rfl, hb2⟩
  simp only []
  go_wp2_with fail
  with_reducible refine (h2 _).mono ?_
  rintro e w3 ⟨z, rfl, hz, hb3, _, hd⟩
  have hn := hd zero_div
  clear hd
  simp only []
  go_wp2_with fail
  with_reducible refine (h4 z hz hn _).mono ?_
  rintro e w4 ⟨rfl, hb4⟩
  have hfin : Hid (LvP w (.returned (.bool true)) w4) := hidI ⟨rfl, below_step (below_step (below_step hb1 hb2) hb3) hb4⟩
  clear hb1 hb2 hb3 hb4 hz hn h1 h2 h3 h4
  simp only []
  go_wp2_with fail
  go_ret
  exact hfin.out
end Go.Proofs.YtfigcncaadknlaaDoor
