import Derived.Test.YtliacfjdenfldaaSouB
namespace Go.Proofs.Ytliacfjdenfldaa
open Go.RowKit Go.Proofs.Sm Go.Proofs.YtliacfjdenfldaaW.PrintWords
set_option linter.unusedSimpArgs false
set_option linter.unusedVariables false

/-- what Check tells of tiers -/
def chkT : Int → Nat → List A48 → Int × Int
  | t, _, [] => if t < 0 then (-1, 12) else (0, 0)
  | t, i, x :: xs => if tierC t x.f2 x.f3 = 0 then chkT x.f2 (i + 1) xs else (i, tierC t x.f2 x.f3)

theorem numF_none (kd : ByteArray) (o : Int) : ∀ xs : List A48, (∀ x ∈ xs, ¬ x.f0.toList = kd.toList) → numF xs kd o = o
  | [], _ => rfl
  | x :: xs, h => by
    rw [numF, if_neg (h x (by simp))]
    exact numF_none kd o xs (fun y hy => h y (by simp [hy]))
theorem tier_ne_cap : ¬ wTier.toList = wCap.toList := by decide +kernel
theorem tier_ne_min : ¬ wTier.toList = wMinimum.toList := by decide +kernel

def TierRule (x : A48) : Prop := x.f0 = wTier ∧ x.f1.size ≤ 140737488351232 ∧ 0 ≤ x.f3 ∧ x.f3 ≤ 10000

set_option maxHeartbeats 4000000 in
theorem check_tiers (A : Option Addr) (xs : List A48) (c : Nat) (w : World) (hC : Kd.C d48 w A xs.length xs) (hl : xs.length ≤ 1000000) (ht : ∀ x ∈ xs, TierRule x) :
    Calls Try.prog 32 #[.slice A xs.length c] w fun e w' => e = .returned (.tuple #[.int .i64 (chkT (-1) 0 xs).1, .int .i64 (chkT (-1) 0 xs).2]) ∧ Below w.heap.size w w' := by
  have hmm := @run_makeMap Try.prog
  have HT := hidI ht
  have HCC := hidI hC
  have hx0 : Hid (xs = [] ∨ ∃ b off, A = some ⟨b, off, none⟩ ∧ ∀ (i : Nat) (hi : i < xs.length) (j : Nat) (v : Value), (A48.l xs[i])[j]? = some v → w.cell? ⟨b, off + i * 4 + j, none⟩ = some v) := by
    by_cases h0 : xs = []
    · exact .inl h0
    · exact .inr (Kp.C_open hC (List.length_pos_iff.2 h0) (by decide))
  have ncap : Hid (numF xs wCap 1125899906842624 = 1125899906842624) := numF_none _ _ _ (fun x hx => by rw [(ht x hx).1]; exact tier_ne_cap)
  have nmin : Hid (numF xs wMinimum 0 = 0) := numF_none _ _ _ (fun x hx => by rw [(ht x hx).1]; exact tier_ne_min)
  clear ht hC
  go_enter Try.func32, Try.ntmps32
  go_wp2
  go_loopw [13] (fun i wr => ∃ (k : Nat) (t : Int), k ≤ xs.length ∧ i = .int .i64 k ∧ Hid (chkT (-1) 0 xs = chkT t k (xs.drop k)) ∧ Blk wr (w.heap.size + 1) #[.map (some w.heap.size), .int .i64 t] 154 ∧ Below w.heap.size w wr) (fun i _ => xs.length - (intOf i).toNat)
  case atStart => exact ⟨0, -1, Nat.zero_le _, rfl, hidI rfl, Blk.new' (by simp), below_new (below_new (Below.refl _ _) _) _⟩
  case round =>
    obtain ⟨k, t, hk, rfl, hst, hB, hb⟩ := hrel
    by_cases hlt : k < xs.length
    · rcases hx0.out with rfl | ⟨b, off, rfl, hx⟩
      · simp at hlt
      obtain ⟨x, hxe⟩ : ∃ x, x = xs[k] := ⟨_, rfl⟩
      have q0 : wr.cell? ⟨b, off + k * 4, none⟩ = some (.string wTier) := by rw [← (HT.out xs[k] (List.getElem_mem hlt)).1]; exact pw_cell_below hb (hx k hlt 0 _ rfl)
      have q1 : wr.cell? ⟨b, off + k * 4 + 1, none⟩ = some (.string x.f1) := by rw [hxe]; exact pw_cell_below hb (hx k hlt 1 _ rfl)
      have q2 : wr.cell? ⟨b, off + k * 4 + 2, none⟩ = some (.int .i64 x.f2) := by rw [hxe]; exact pw_cell_below hb (hx k hlt 2 _ rfl)
      have q3 : wr.cell? ⟨b, off + k * 4 + 3, none⟩ = some (.int .i64 x.f3) := by rw [hxe]; exact pw_cell_below hb (hx k hlt 3 _ rfl)
      have hTR : Hid (TierRule x) := by rw [hxe]; exact HT.out _ (List.getElem_mem hlt)
      have hst' : Hid (chkT (-1) 0 xs = if tierC t x.f2 x.f3 = 0 then chkT x.f2 (k + 1) (xs.drop (k + 1)) else ((k : Int), tierC t x.f2 x.f3)) := by
        show chkT (-1) 0 xs = _
        rw [hst.out, List.drop_eq_getElem_cons hlt, hxe]; rfl
      clear hst hxe hx
      go_wp2_with fail
      refine (rule_tier _ _ t _ _ _ _ (hB.al _) ⟨hTR.out.2.2.1, hTR.out.2.2.2⟩ hTR.out.2.1).mono ?_
      rintro e w1 ⟨rfl, hB1, hg1⟩
      obtain ⟨cc, hcc⟩ : ∃ cc, cc = tierC t x.f2 x.f3 := ⟨_, rfl⟩
      rw [← hcc] at hB1 ⊢
      have HST : Hid (chkT (-1) 0 xs = if cc = 0 then chkT x.f2 (k + 1) (xs.drop (k + 1)) else ((k : Int), cc)) := by rw [hcc]; exact hst'
      have HB1 := hidI hB1
      have hb1 : Below w.heap.size w w1 := below_of_gb (below_new hb _) hg1 (by omega)
      clear hcc hst' hB1 hg1 hTR
      by_cases h0 : cc = 0
      · have HST' : Hid (chkT (-1) 0 xs = chkT x.f2 (k + 1) (xs.drop (k + 1))) := by show _ = _; rw [HST.out, if_pos h0]
        have hB2 : Hid (Blk w1 (w.heap.size + 1) #[.map (some w.heap.size), .int .i64 x.f2] 154) := by
          have := HB1.out; rw [if_pos h0] at this; exact this
        clear HST HB1
        subst h0
        go_wp2
        go_roundw
        case rel => exact ⟨k + 1, x.f2, by omega, by go_num, HST', hB2.out, hb1⟩
        case measure => simp [intOf]; omega
      · have HST' : Hid (chkT (-1) 0 xs = ((k : Int), cc)) := by show _ = _; rw [HST.out, if_neg h0]
        have h0' : (cc == 0) = false := by simpa using h0
        clear HST HB1
        go_wp2
        go_ret2
        rw [HST'.out]
        exact ⟨rfl, hb1⟩
    · have hst' : Hid (chkT (-1) 0 xs = if t < 0 then (-1, 12) else (0, 0)) := by
        show _ = _
        rw [hst.out, List.drop_of_length_le (by omega)]; rfl
      have cB := hB.c; have lB := hB.lt; have fB := hB.f
      have HBk := hidI hB
      clear hst hB
      by_cases h0 : t < 0
      · have h0' : decide (t < 0) = true := by simpa using h0
        have HS : Hid (chkT (-1) 0 xs = (-1, 12)) := by show _ = _; rw [hst'.out, if_pos h0]
        clear hst'
        go_wp2
        go_ret2
        rw [HS.out]
        exact ⟨rfl, hb⟩
      · have h0' : decide (t < 0) = false := by simpa using h0
        have HS : Hid (chkT (-1) 0 xs = (0, 0)) := by show _ = _; rw [hst'.out, if_neg h0]
        clear hst'
        go_wp2_with fail
        refine (number_any _ _ _ _ _ _ (Kd.C_below HCC.out hb) hl).mono ?_
        rintro e w1 ⟨rfl, hb1⟩
        rw [ncap.out]
        go_wp2_with fail
        refine (number_any _ _ _ _ _ _ (Kd.C_below HCC.out (below_step hb hb1)) hl).mono ?_
        rintro e w2 ⟨rfl, hb2⟩
        rw [nmin.out]
        go_wp2
        go_ret2
        rw [HS.out]
        exact ⟨rfl, below_step (below_step hb hb1) hb2⟩

end Go.Proofs.Ytliacfjdenfldaa
