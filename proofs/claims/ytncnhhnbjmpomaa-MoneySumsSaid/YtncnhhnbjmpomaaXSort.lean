/- slices.SortStableFunc over what is left of parts: fewer than 20 (one block of Go's insertion sort). -/
import Derived.Test.YtncnhhnbjmpomaaQ0
import Derived.Test.YtncnhhnbjmpomaaKd
import Derived.Test.YtncnhhnbjmpomaaShelfIns
namespace Go.Proofs.Ytncnhhnbjmpomaa
open Go.RowKit Go.Sort Go.Proofs.Ytncnhhnbjmpomaa.Q
set_option linter.unusedVariables false
set_option linter.unusedSimpArgs false
instance : Inhabited S98 := ⟨⟨0, 0⟩⟩
def e98 (x : S98) : List Value := [.int .i64 x.f0, .int .u64 x.f1]
def cmpI (a b : Int) : Int := if a < b then -1 else if b < a then 1 else 0
def cf98 (x y : S98) : Int := cmpI y.f1 x.f1
theorem nan67 (a : Int) (w : World) : Calls Try.prog 67 #[.int .u64 a] w fun e w' => e = .returned (.bool false) ∧ w = w' := by
  go_enter Try.func67, Try.ntmps67
  go_wp2
  go_ret
  exact ⟨by simp, rfl⟩
theorem cmp53 (a b : Int) (w : World) : Calls Try.prog 53 #[.int .u64 a, .int .u64 b] w fun e w' => e = .returned (.int .i64 (cmpI a b)) ∧ w = w' := by
  by_cases h1 : a < b
  · have hc : Hid (cmpI a b = -1) := by show _ = _; unfold cmpI; rw [if_pos h1]
    go_enter Try.func53, Try.ntmps53
    go_wp2_with (go_at_call 67; refine (nan67 _ _).mono ?_; rintro e w' ⟨rfl, rfl⟩)
    go_ret
    exact ⟨by rw [hc.out]; rfl, rfl⟩
  · by_cases h2 : b < a
    · have hc : Hid (cmpI a b = 1) := by show _ = _; unfold cmpI; rw [if_neg h1, if_pos h2]
      have h1' : b ≤ a := by omega
      go_enter Try.func53, Try.ntmps53
      go_wp2_with (go_at_call 67; refine (nan67 _ _).mono ?_; rintro e w' ⟨rfl, rfl⟩)
      go_ret
      exact ⟨by rw [hc.out]; rfl, rfl⟩
    · have hc : Hid (cmpI a b = 0) := by show _ = _; unfold cmpI; rw [if_neg h1, if_neg h2]
      have h1' : b ≤ a := by omega
      have h2' : a ≤ b := by omega
      go_enter Try.func53, Try.ntmps53
      go_wp2_with (go_at_call 67; refine (nan67 _ _).mono ?_; rintro e w' ⟨rfl, rfl⟩)
      go_ret
      exact ⟨by rw [hc.out]; rfl, rfl⟩
set_option maxHeartbeats 1000000 in
theorem closure52 (x y : S98) (W : World) : Calls Try.prog 52 #[.agg (e98 x).toArray, .agg (e98 y).toArray] W fun e w' => e = .returned (.int .i64 (cf98 x y)) ∧ ∃ q os', w' = grow (W.drewN q) os' := by
  have hcon := fun W' => cmp53 y.f1 x.f1 W'
  show Calls Try.prog 52 #[.agg #[.int .i64 x.f0, .int .u64 x.f1], .agg #[.int .i64 y.f0, .int .u64 y.f1]] W _
  unfold cf98
  generalize cmpI y.f1 x.f1 = r at hcon ⊢
  go_enter Try.func52, Try.ntmps52
  go_wp2_with (go_at_call 53; refine (hcon _).mono ?_; rintro e w' ⟨rfl, rfl⟩)
  go_ret
  exact ⟨rfl, 0, _, by rw [alloc_eq_grow, alloc_eq_grow, grow_grow]; rfl⟩
theorem cmpLays52 (blk off size : Nat) (w : World) : CmpLays Try.prog 52 #[] e98 2 cf98 blk off size w :=
  fun _ _ _ _ x y => closure52 x y _
def srt (d : Array S98) : Array S98 := Sort.insertionSort (ltOf cf98) d 0 d.size
theorem ins74 (blk off cap : Nat) (d : Array S98) (w : World) (hH : HoldsK e98 2 w blk off d) (hblk : blk < w.heap.size) (h : d.size ≤ 1000) :
    Calls Try.prog 74 #[.slice (some ⟨blk, off, none⟩) d.size cap, .int .i64 0, .int .i64 d.size, .func (.func 52) #[] #[]] w fun e w' => e = .returned (.tuple #[]) ∧ ∃ n os, w' = sortWorldK e98 2 w blk off n (srt d) os := by
  have eg : ∀ args w, (callFunc 52 args).run Try.prog w = .ok (.enter 52 args) w := enters_of Try.func52 (by kernel_rfl) rfl
  exact AnyQ.insertionSortCmpFunc Try.ins_lays 2 Try.isAgg98 Try.sizeOf98 e98 (fun _ => rfl) (fun x v hv => by simp [e98] at hv; rcases hv with rfl | rfl <;> rfl) cf98 52 #[] blk off cap 0 d.size d w eg (cmpLays52 blk off d.size w) hH hblk (Nat.zero_le _) (Nat.le_refl _) (by omega)
def SortP (blk off : Nat) (d : Array S98) (w : World) (e : Ending) (w' : World) : Prop := e = .returned (.tuple #[]) ∧ ∃ n os, w' = sortWorldK e98 2 w blk off n (srt d) os
theorem stable66 (blk off cap : Nat) (d : Array S98) (w : World) (hH : HoldsK e98 2 w blk off d) (hblk : blk < w.heap.size) (h : d.size < 20) :
    Calls Try.prog 66 #[.slice (some ⟨blk, off, none⟩) d.size cap, .int .i64 d.size, .func (.func 52) #[] #[]] w (SortP blk off d w) := by
  have H := hidI (ins74 blk off cap d w hH hblk (by omega))
  clear hH
  have h1 : ¬ ((20 : Int) ≤ (d.size : Int)) := by omega
  have h2 : ¬ ((20 : Int) < (d.size : Int)) := by omega
  go_enter Try.func66, Try.ntmps66
  go_wp2
  go_loop [7, 8] (fun a b => a = .int .i64 0 ∧ b = .int .i64 20) (fun a b => 0)
  case atStart => exact ⟨rfl, rfl⟩
  case round =>
    obtain ⟨rfl, rfl⟩ := hrel
    go_wp2_with fail
    refine H.out.mono ?_
    rintro e w' ⟨rfl, n, os, rfl⟩
    have HF : Hid (SortP blk off d w (.returned (.tuple #[])) (sortWorldK e98 2 w blk off n (srt d) os)) := ⟨rfl, n, os, rfl⟩
    clear H
    generalize sortWorldK e98 2 w blk off n (srt d) os = w1 at *
    simp only []
    go_wp2
    go_loop [6] (fun a => a = .int .i64 20) (fun a => 0)
    case atStart => rfl
    case round =>
      obtain rfl := hrel
      go_wp2
      go_end0
      exact HF.out
theorem sort51 (blk off cap : Nat) (d : Array S98) (w : World) (hH : HoldsK e98 2 w blk off d) (hblk : blk < w.heap.size) (h : d.size < 20) :
    Calls Try.prog 51 #[.slice (some ⟨blk, off, none⟩) d.size cap, .func (.func 52) #[] #[]] w (SortP blk off d w) := by
  have H := hidI (stable66 blk off cap d w hH hblk h)
  clear hH
  go_enter Try.func51, Try.ntmps51
  go_wp2_with fail
  refine H.out.mono ?_
  rintro e w' ⟨rfl, n, os, rfl⟩
  have HF : Hid (SortP blk off d w (.returned (.tuple #[])) (sortWorldK e98 2 w blk off n (srt d) os)) := ⟨rfl, n, os, rfl⟩
  clear H
  generalize sortWorldK e98 2 w blk off n (srt d) os = w1 at *
  simp only []
  go_wp2
  go_end0
  exact HF.out
/-! what a sort leaves of the world -/
theorem sw_block (w : World) (blk off n : Nat) (d : Array S98) (os : Array Obj) (b : Nat) (hb : b < w.heap.size) (hne : b ≠ blk) : (sortWorldK e98 2 w blk off n d os).heap[b]? = w.heap[b]? := by
  unfold sortWorldK putRowK putRow mapBlock grow Sort.ahead
  simp only []
  rw [Array.getElem?_append_left (by simpa using hb), Array.getElem?_modify, if_neg (by omega)]
theorem sw_size (w : World) (blk off n : Nat) (d : Array S98) (os : Array Obj) : w.heap.size ≤ (sortWorldK e98 2 w blk off n d os).heap.size := by
  unfold sortWorldK putRowK putRow mapBlock grow Sort.ahead
  simp
theorem sw_fr (w : World) (blk off n : Nat) (d : Array S98) (os : Array Obj) : Kq.Fr (fun k => k = blk) w (sortWorldK e98 2 w blk off n d os) :=
  ⟨rfl, rfl, rfl, sw_size w blk off n d os, fun b hb hn => sw_block w blk off n d os b hb hn⟩
end Go.Proofs.Ytncnhhnbjmpomaa
