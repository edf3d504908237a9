/- slices.ContainsFunc at whole numbers, with the closures that ask whether one is below 0. -/
import Derived.Test.YtncnhhnbjmpomaaQ0
import Derived.Test.YtncnhhnbjmpomaaKd
namespace Go.Proofs.Ytncnhhnbjmpomaa.Q
open Go.RowKit Go.Proofs.YtncnhhnbjmpomaaW.PrintWords Go.Proofs.YtncnhhnbjmpomaaW.PrintLast Go.Proofs.Ytncnhhnbjmpomaa
set_option linter.unusedVariables false
set_option linter.unusedSimpArgs false
theorem neg50 (x : Int) (w : World) : Calls Try.prog 50 #[.int .i64 x] w fun e w' => e = .returned (.bool (decide (x < 0))) ∧ w = w' := by
  go_enter Try.func50, Try.ntmps50
  go_wp2
  go_ret
  exact ⟨rfl, rfl⟩
theorem neg54 (x : Int) (w : World) : Calls Try.prog 54 #[.int .i64 x] w fun e w' => e = .returned (.bool (decide (x < 0))) ∧ w = w' := by
  go_enter Try.func54, Try.ntmps54
  go_wp2
  go_ret
  exact ⟨rfl, rfl⟩
theorem neg57 (x : Int) (w : World) : Calls Try.prog 57 #[.int .i64 x] w fun e w' => e = .returned (.bool (decide (x < 0))) ∧ w = w' := by
  go_enter Try.func57, Try.ntmps57
  go_wp2
  go_ret
  exact ⟨rfl, rfl⟩
theorem eg50 (args : Array Value) (w : World) : (callFunc 50 args).run Try.prog w = .ok (.enter 50 args) w := enters_ Try.func50 (by kernel_rfl) rfl args w
theorem eg54 (args : Array Value) (w : World) : (callFunc 54 args).run Try.prog w = .ok (.enter 54 args) w := enters_ Try.func54 (by kernel_rfl) rfl args w
theorem eg57 (args : Array Value) (w : World) : (callFunc 57 args).run Try.prog w = .ok (.enter 57 args) w := enters_ Try.func57 (by kernel_rfl) rfl args w
def IdxP (l : List Int) (e : Ending) : Prop := ∃ r : Int, e = .returned (.int .i64 r) ∧ (decide (r ≥ 0)) = l.any (fun n => decide (n < 0))
set_option maxHeartbeats 1000000 in
theorem idx_any (g : Nat) (hg : ∀ (x : Int) (w : World), Calls Try.prog g #[.int .i64 x] w fun e w' => e = .returned (.bool (decide (x < 0))) ∧ w = w') (eg : ∀ args w, (callFunc g args).run Try.prog w = .ok (.enter g args) w)
    (A0 : Option Addr) (c0 : Nat) (l0 : List Int) (w : World) (hr0 : Kd.C (Kd.int .i64) w A0 l0.length l0) (hc0 : l0.length ≤ c0) (hl : l0.length ≤ 140737488355328) :
    Calls Try.prog 56 #[.slice A0 l0.length c0, .func (.func g) #[] #[]] w fun e w' => IdxP l0 e ∧ w = w' := by
  have HRD : Hid (∀ k (h : k < l0.length), ∃ b off, A0 = some ⟨b, off, none⟩ ∧ w.cell? ⟨b, off + k, none⟩ = some (.int .i64 l0[k])) := fun k hk => by
    obtain ⟨b, off, e, hc⟩ := C_ints hr0 (by omega)
    exact ⟨b, off, e, hc k hk⟩
  have HG := hidI hg
  have EG := hidI eg
  clear hr0 hg eg
  go_enter Try.func56, Try.ntmps56
  go_wp2
  go_loop [8] (fun i => ∃ k : Nat, k ≤ l0.length ∧ i = .int .i64 k ∧ Hid ((l0.take k).any (fun n => decide (n < 0)) = false)) (fun i => l0.length - (intOf i).toNat)
  case atStart => exact ⟨0, Nat.zero_le _, rfl, by simp [Hid]⟩
  case round =>
    obtain ⟨k, hk, rfl, HA⟩ := hrel
    by_cases hlt : k < l0.length
    · obtain ⟨b, off, rfl, hc⟩ := HRD.out k hlt
      have eg := EG.out
      have hst : (l0.take (k + 1)).any (fun n => decide (n < 0)) = ((l0.take k).any (fun n => decide (n < 0)) || decide (l0[k] < 0)) := by
        rw [List.take_succ_eq_append_getElem hlt, List.any_append]; simp
      have HST := hidI hst
      clear hst
      by_cases hneg : l0[k] < 0
      · have hd : decide (l0[k] < 0) = true := by simpa using hneg
        have HY : Hid (l0.any (fun n => decide (n < 0)) = true) := by
          show _ = _
          rw [List.any_eq_true]; exact ⟨l0[k], List.getElem_mem _, hd⟩
        go_wp2_with fail
        refine (HG.out _ _).mono ?_
        rintro e w' ⟨rfl, rfl⟩
        rw [hd]
        simp only []
        go_wp2
        go_ret
        exact ⟨⟨k, rfl, by rw [HY.out]; simp⟩, rfl⟩
      · have hd : decide (l0[k] < 0) = false := by simpa using hneg
        have HN : Hid ((l0.take (k + 1)).any (fun n => decide (n < 0)) = false) := by
          show _ = _
          rw [HST.out, HA.out, hd]; rfl
        go_wp2_with fail
        refine (HG.out _ _).mono ?_
        rintro e w' ⟨rfl, rfl⟩
        rw [hd]
        simp only []
        go_wp2
        go_round
        case rel => exact ⟨k + 1, by omega, by go_num, HN⟩
        case measure => simp [intOf]; omega
    · obtain rfl : k = l0.length := by omega
      have HN : Hid (l0.any (fun n => decide (n < 0)) = false) := by
        show _ = _
        have := HA.out; rwa [List.take_length] at this
      go_wp2
      go_ret
      exact ⟨⟨-1, rfl, by rw [HN.out]; decide⟩, rfl⟩
def slices_ContainsFunc_int64_int64.f (l0 : List Int) (a1 : Nat) : Option Bool := if (a1 = 50 ∨ a1 = 54 ∨ a1 = 57) ∧ l0.length ≤ 1000000 then some (l0.any (fun n => decide (n < 0))) else none
set_option maxHeartbeats 1000000 in
theorem cont_any (g : Nat) (hg : ∀ (x : Int) (w : World), Calls Try.prog g #[.int .i64 x] w fun e w' => e = .returned (.bool (decide (x < 0))) ∧ w = w') (eg : ∀ args w, (callFunc g args).run Try.prog w = .ok (.enter g args) w)
    (A0 : Option Addr) (c0 : Nat) (l0 : List Int) (w : World) (hr0 : Kd.C (Kd.int .i64) w A0 l0.length l0) (hc0 : l0.length ≤ c0) (hl : l0.length ≤ 140737488355328) :
    Calls Try.prog 28 #[.slice A0 l0.length c0, .func (.func g) #[] #[]] w fun e w' => e = .returned (.bool (l0.any (fun n => decide (n < 0)))) ∧ w = w' := by
  have H := hidI (idx_any g hg eg A0 c0 l0 w hr0 hc0 hl)
  clear hg eg hr0
  go_enter Try.func28, Try.ntmps28
  go_wp2_with fail
  refine H.out.mono ?_
  rintro e w' ⟨⟨r, rfl, hr⟩, rfl⟩
  have HR := hidI hr
  clear hr
  go_wp2
  go_ret
  exact ⟨by rw [← HR.out]; rfl, rfl⟩
theorem slices_ContainsFunc_int64_int64.calls (A0 : Option Addr) (c0 : Nat) (l0 : List Int) (a1 : Nat) (r : Bool) (w : World) (hr0 : Kd.C (Kd.int .i64) w A0 l0.length l0) (hc0 : l0.length ≤ c0) (h : slices_ContainsFunc_int64_int64.f l0 a1 = some r) :
    Calls Try.prog 28 #[.slice A0 l0.length c0, .func (.func a1) #[] #[]] w fun e w' => e = .returned (.bool r) ∧ Drawn0 w w' := by
  unfold slices_ContainsFunc_int64_int64.f at h
  split at h
  · rename_i hb
    cases h
    obtain ⟨h1, h2⟩ := hb
    have key : ∀ (g : Nat) (hg : ∀ (x : Int) (w : World), Calls Try.prog g #[.int .i64 x] w fun e w' => e = .returned (.bool (decide (x < 0))) ∧ w = w') (eg : ∀ args w, (callFunc g args).run Try.prog w = .ok (.enter g args) w), Calls Try.prog 28 #[.slice A0 l0.length c0, .func (.func g) #[] #[]] w fun e w' => e = .returned (.bool (l0.any (fun n => decide (n < 0)))) ∧ Drawn0 w w' :=
      fun g hg eg => (cont_any g hg eg A0 c0 l0 w hr0 hc0 (by omega)).mono fun e w' ⟨he, hw⟩ => ⟨he, hw ▸ Drawn0.refl _⟩
    rcases h1 with rfl | rfl | rfl
    · exact key 50 neg50 eg50
    · exact key 54 neg54 eg54
    · exact key 57 neg57 eg57
  · cases h
end Go.Proofs.Ytncnhhnbjmpomaa.Q
