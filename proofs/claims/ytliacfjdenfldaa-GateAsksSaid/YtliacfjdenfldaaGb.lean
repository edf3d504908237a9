import Derived.Test.YtliacfjdenfldaaGa
import Derived.Test.YtliacfjdenfldaaKq
namespace Go.Proofs.Ytliacfjdenfldaa
open Go.RowKit Go.Proofs.Kq
open Go.Proofs.YtliacfjdenfldaaW.PrintWords (pw_cell_below step_append_cells print_append_cells Kd Kd.C Kd.C_below)
set_option linter.unusedSimpArgs false
set_option linter.unusedVariables false

theorem own_nb {α : Type} {l : α → List Value} {sz : Nat} {e : TypeId} {w : World} {base : Nat} {v : Value} {xs : List α} {g T : Nat} {cs : Array Value} (h : Own l sz e w base v xs) (hB : Blk w g cs T) (hT : e ≠ T) : v.ownBlock ≠ some g := h.ne hB hT
theorem info98 : (Try.prog.info? 98).map (fun i => (i.zero, i.size, i.bytes)) = some (some (.agg #[(.string ⟨#[]⟩), (.string ⟨#[]⟩), (.string ⟨#[]⟩), (.int .i64 0), (.bool false)]), 5, 64) := by kernel_rfl
theorem info102 : (Try.prog.info? 102).map (fun i => (i.zero, i.size, i.bytes)) = some (some (.agg #[(.string ⟨#[]⟩), (.string ⟨#[]⟩), (.int .i64 0)]), 3, 40) := by kernel_rfl

theorem d98_one : ∀ x : A98, ∀ u ∈ A98.l x, u.oneCell' = true := by
  intro x u hu
  simp only [A98.l, List.mem_cons, List.not_mem_nil, or_false] at hu
  rcases hu with rfl | rfl | rfl | rfl | rfl <;> rfl
theorem d102_one : ∀ x : A102, ∀ u ∈ A102.l x, u.oneCell' = true := by
  intro x u hu
  simp only [A102.l, List.mem_cons, List.not_mem_nil, or_false] at hu
  rcases hu with rfl | rfl | rfl <;> rfl

/-- what a clone is: a row of its own -/
def Cl98 (xs : List A98) (w : World) (e : Ending) (w' : World) : Prop := ∃ v', e = .returned v' ∧ Own A98.l 5 98 w' w.heap.size v' xs ∧ Below w.heap.size w w'

theorem own98 {w : World} {base : Nat} {v : Value} {xs : List A98} (h : Own A98.l 5 98 w base v xs) : ∃ A c, v = .slice A xs.length c ∧ xs.length ≤ c ∧ Kd.C d98 w A xs.length xs :=
  Own.reads (hl := fun x => (rfl : (A98.l x).length = 5)) (h1 := d98_one) h
set_option maxRecDepth 100000 in
set_option maxHeartbeats 1000000 in
theorem clone98 (xs : List A98) (A : Option Addr) (c : Nat) (w : World) (hn : A = none → xs.length = 0 ∧ c = 0) (hC : Kd.C d98 w A xs.length xs) (hl : xs.length ≤ 1000000) :
    Calls Try.prog 88 #[.slice A xs.length c] w (Cl98 xs w) := by
  cases A with
  | none =>
    obtain ⟨h1, rfl⟩ := hn rfl
    obtain rfl := List.length_eq_zero_iff.1 h1
    have he := fun w => Lib.run_eql_slice_nil (P := Try.prog) w 87 98 none 0 0 0 0 Try.underlying87
    go_enter Try.func88, Try.ntmps88
    go_wp2
    go_ret
    exact ⟨_, rfl, Own.nil _ _ _ _ _, Below.refl _ _⟩
  | some ad =>
    have he := fun w => Lib.run_eql_slice_nil (P := Try.prog) w 87 98 (some ad) xs.length c 0 0 Try.underlying87
    have HR := reads_of_C (by decide) hC
    obtain ⟨i0, hi, hz0, hz1, hz2⟩ := info_parts info98
    clear hn hC
    go_enter Try.func88, Try.ntmps88
    go_wp2_with (at_builtin; refine wpList_append_any _ rfl (.tmp 5) (.tmp 6) 87 rfl w.heap.size 98 i0 (.agg #[(.string ⟨#[]⟩), (.string ⟨#[]⟩), (.string ⟨#[]⟩), (.int .i64 0), (.bool false)]) 5 64 Try.underlying87 hi hz0 hz1 hz2 rfl (by decide) (.slice (some ⟨w.heap.size, 0, none⟩) 0 0) 0 [] rfl ?aO w.heap.size (some ad) xs.length c (xs.flatMap A98.l) rfl ?aR (flat_one d98_one xs) ?aM ?aB ?aS ?_; (case aO => exact ⟨rfl, .inr ⟨w.heap.size, 0, #[], rfl, Nat.le_refl _, by (show (w.heap.push _)[w.heap.size]? = _; simp), Nat.le_refl _, by decide, rfl, rfl⟩⟩); (case aR => exact HR.alloc (Nat.le_refl _) _); (case aM => simp only [maxLen]; omega); (case aB => omega); (case aS => simp); intro v1 w1 hown hg hat)
    go_ret
    exact ⟨_, rfl, by have := Own.app (xs := []) (ys := xs) (l := A98.l) (by simpa using hown); simpa using this, (below_new (Below.refl _ _) _).grown hg (by simp) (fun k hk => by cases hk; exact Nat.le_refl _)⟩

/-- what a clone is: a row of its own -/
def Cl102 (xs : List A102) (w : World) (e : Ending) (w' : World) : Prop := ∃ v', e = .returned v' ∧ Own A102.l 3 102 w' w.heap.size v' xs ∧ Below w.heap.size w w'

theorem own102 {w : World} {base : Nat} {v : Value} {xs : List A102} (h : Own A102.l 3 102 w base v xs) : ∃ A c, v = .slice A xs.length c ∧ xs.length ≤ c ∧ Kd.C d102 w A xs.length xs :=
  Own.reads (hl := fun x => (rfl : (A102.l x).length = 3)) (h1 := d102_one) h
set_option maxRecDepth 100000 in
set_option maxHeartbeats 1000000 in
theorem clone102 (xs : List A102) (A : Option Addr) (c : Nat) (w : World) (hn : A = none → xs.length = 0 ∧ c = 0) (hC : Kd.C d102 w A xs.length xs) (hl : xs.length ≤ 1000000) :
    Calls Try.prog 95 #[.slice A xs.length c] w (Cl102 xs w) := by
  cases A with
  | none =>
    obtain ⟨h1, rfl⟩ := hn rfl
    obtain rfl := List.length_eq_zero_iff.1 h1
    have he := fun w => Lib.run_eql_slice_nil (P := Try.prog) w 88 102 none 0 0 0 0 Try.underlying88
    go_enter Try.func95, Try.ntmps95
    go_wp2
    go_ret
    exact ⟨_, rfl, Own.nil _ _ _ _ _, Below.refl _ _⟩
  | some ad =>
    have he := fun w => Lib.run_eql_slice_nil (P := Try.prog) w 88 102 (some ad) xs.length c 0 0 Try.underlying88
    have HR := reads_of_C (by decide) hC
    obtain ⟨i0, hi, hz0, hz1, hz2⟩ := info_parts info102
    clear hn hC
    go_enter Try.func95, Try.ntmps95
    go_wp2_with (at_builtin; refine wpList_append_any _ rfl (.tmp 5) (.tmp 6) 88 rfl w.heap.size 102 i0 (.agg #[(.string ⟨#[]⟩), (.string ⟨#[]⟩), (.int .i64 0)]) 3 40 Try.underlying88 hi hz0 hz1 hz2 rfl (by decide) (.slice (some ⟨w.heap.size, 0, none⟩) 0 0) 0 [] rfl ?aO w.heap.size (some ad) xs.length c (xs.flatMap A102.l) rfl ?aR (flat_one d102_one xs) ?aM ?aB ?aS ?_; (case aO => exact ⟨rfl, .inr ⟨w.heap.size, 0, #[], rfl, Nat.le_refl _, by (show (w.heap.push _)[w.heap.size]? = _; simp), Nat.le_refl _, by decide, rfl, rfl⟩⟩); (case aR => exact HR.alloc (Nat.le_refl _) _); (case aM => simp only [maxLen]; omega); (case aB => omega); (case aS => simp); intro v1 w1 hown hg hat)
    go_ret
    exact ⟨_, rfl, by have := Own.app (xs := []) (ys := xs) (l := A102.l) (by simpa using hown); simpa using this, (below_new (Below.refl _ _) _).grown hg (by simp) (fun k hk => by cases hk; exact Nat.le_refl _)⟩

end Go.Proofs.Ytliacfjdenfldaa
