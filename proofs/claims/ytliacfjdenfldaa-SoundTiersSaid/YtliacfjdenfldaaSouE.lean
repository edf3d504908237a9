import Derived.Test.YtliacfjdenfldaaSouD
import Derived.Maps.AppendAt
namespace Go.Proofs.Ytliacfjdenfldaa
open Go.RowKit Go.Proofs.Sm Go.Proofs.YtliacfjdenfldaaW.PrintWords
set_option linter.unusedSimpArgs false
set_option linter.unusedVariables false

theorem l10a : chkT (-1) 0 [(⟨wTier, ⟨#[]⟩, 5, 100⟩ : A48)] = (0, 12) := by decide +kernel
theorem l10b : chkT (-1) 0 [(⟨wTier, ⟨#[]⟩, 0, 100⟩ : A48)] = (0, 0) := by decide +kernel

set_option maxHeartbeats 2000000 in
theorem lives10_any (w : World) :
    Calls Try.prog 31 #[] w fun e w' => e = .returned (.bool true) ∧ Below w.heap.size w w' := by
  go_enter Try.func31, Try.ntmps31
  go_wp2_with fail
  refine (check_tiers _ [(⟨wTier, ⟨#[]⟩, 5, 100⟩ : A48)] 1 _ (Kp.C_blk (T := 48) (cs := #[.string wTier, .string ⟨#[]⟩, .int .i64 5, .int .i64 100]) (Blk.new' rfl) rfl (by decide)) (by decide) (by intro x hx; simp only [List.mem_singleton] at hx; subst hx; exact ⟨rfl, by decide +kernel, by decide, by decide⟩)).mono ?_
  rintro e w1 ⟨rfl, hb1⟩
  rw [l10a]
  have HB1 := below_step (below_new (Below.refl w.heap.size w) _) hb1
  clear hb1
  go_wp2_with fail
  refine (check_tiers _ [(⟨wTier, ⟨#[]⟩, 0, 100⟩ : A48)] 1 _ (Kp.C_blk (T := 48) (cs := #[.string wTier, .string ⟨#[]⟩, .int .i64 0, .int .i64 100]) (Blk.new' rfl) rfl (by decide)) (by decide) (by intro x hx; simp only [List.mem_singleton] at hx; subst hx; exact ⟨rfl, by decide +kernel, by decide, by decide⟩)).mono ?_
  rintro e w2 ⟨rfl, hb2⟩
  rw [l10b]
  have HB2 := below_step (below_new HB1 _) hb2
  clear hb2 HB1
  go_wp2
  go_ret
  exact ⟨rfl, HB2⟩

theorem info48 : (Try.prog.info? 48).map (fun i => (i.zero, i.size, i.bytes)) = some (some (.agg #[(.string ⟨#[]⟩), (.string ⟨#[]⟩), (.int .i64 0), (.int .i64 0)]), 4, 48) := by kernel_rfl

/-- the law's int arguments: a row of whole numbers -/
def RdInts (w : World) (A : Option Addr) (zs : List Int) : Prop := zs = [] ∨ ∃ b off, A = some ⟨b, off, none⟩ ∧ ∀ i (h : i < zs.length), w.cell? ⟨b, off + i, none⟩ = some (.int .i64 zs[i])

theorem l6e : chkT (-1) 0 [] = (-1, 12) := by decide +kernel
theorem rl_take (zs : List Int) (k : Nat) (h : k < zs.length) : rl 0 (zs.take (k + 1)) = rl 0 (zs.take k) ++ [⟨wTier, ⟨#[]⟩, zs[k], (k : Nat)⟩] := by
  rw [List.take_succ_eq_append_getElem h, rl_snoc]
  simp; omega

set_option maxRecDepth 100000 in
set_option maxHeartbeats 4000000 in
theorem law6e (A : Option Addr) (c : Nat) (w : World) :
    Calls Try.prog 6 #[.slice A 0 c] w fun e w' => e = .returned (.bool true) ∧ Below w.heap.size w w' := by
  go_enter Try.func6, Try.ntmps6
  go_wp2_with fail
  refine (lives10_any _).mono ?_
  rintro e w1 ⟨rfl, hb1⟩
  go_wp2
  refine wp_loop_rounds 1 ?_
  rw [rounds_succ]
  go_wp2_with fail
  refine (check_tiers none [] 0 _ ⟨rfl, by decide, fun h => absurd h (by decide)⟩ (by decide) (by simp)).mono ?_
  rintro e w2 ⟨rfl, hb2⟩
  rw [l6e]
  go_wp2
  go_ret
  exact ⟨rfl, below_step hb1 hb2⟩

set_option maxRecDepth 100000 in
set_option maxHeartbeats 4000000 in
theorem law6 (A : Option Addr) (zs : List Int) (c : Nat) (w : World) (hr : RdInts w A zs) (hlen : zs.length ≤ 140737488351232) :
    Calls Try.prog 6 #[.slice A zs.length c] w fun e w' => e = .returned (.bool true) ∧ Below w.heap.size w w' := by
  by_cases hl : (100 : Int) < zs.length
  · go_enter Try.func6, Try.ntmps6
    go_wp2_with fail
    refine (lives10_any _).mono ?_
    rintro e w1 ⟨rfl, hb1⟩
    go_wp2_with fail
    refine (lives10_any _).mono ?_
    rintro e w2 ⟨rfl, hb2⟩
    go_wp2
    go_ret
    exact ⟨rfl, below_step hb1 hb2⟩
  rcases hr with rfl | ⟨b, off, rfl, hx⟩
  · exact law6e _ _ _
  by_cases hz : zs = []
  · subst hz; exact law6e _ _ _
  have hpos : 0 < zs.length := List.length_pos_iff.2 hz
  have HX := hidI hx
  have q0 : w.cell? ⟨b, off, none⟩ = some (.int .i64 zs[0]) := hx 0 hpos
  clear hx hz
  have hl' : zs.length ≤ 100 := by omega
  have hl2 : decide ((100 : Int) < zs.length) = false := by simpa using hl
  clear hl
  have ok0 : Hid (okK zs 0 = (zs[0] == 0)) := by
    show _ = _; simp [okK, hpos]
  obtain ⟨z0, hz0⟩ : ∃ z, z = zs[0] := ⟨_, rfl⟩
  rw [← hz0] at q0 ok0
  have HZ0 := hidI hz0
  clear hz0
  go_enter Try.func6, Try.ntmps6
  go_wp2_with fail
  refine (lives10_any _).mono ?_
  rintro e w1 ⟨rfl, hb1⟩
  have q1 : w1.cell? ⟨b, off, none⟩ = some (.int .i64 z0) := pw_cell_below hb1 q0
  go_wp2
  go_loopw [3, 4, 28] (fun v okv i wr => ∃ k : Nat, k ≤ zs.length ∧ i = .int .i64 k ∧ okv = .bool (okK zs k) ∧ Kd.R d48 48 wr w.heap.size (fun _ => True) v (rl 0 (zs.take k)) ∧ Below w.heap.size w wr) (fun _ _ i _ => zs.length - (intOf i).toNat)
  case atStart => exact ⟨0, Nat.zero_le _, rfl, by rw [ok0.out], Kd.R_nil _ _ _ _ _, hb1⟩
  case round =>
    clear q0 q1 ok0
    obtain ⟨k, hk, rfl, rfl, hR, hb⟩ := hrel
    by_cases hlt : k < zs.length
    · obtain ⟨z, hze⟩ : ∃ z, z = zs[k] := ⟨_, rfl⟩
      have q0 : wr.cell? ⟨b, off + k, none⟩ = some (.int .i64 z) := by rw [hze]; exact pw_cell_below hb (HX.out k hlt)
      have HE := hidI hze
      clear hze
      have hg' : zs.getD k 0 = z := by rw [HE.out]; simp [List.getD_eq_getElem?_getD, hlt]
      by_cases ho : okK zs k = true
      · by_cases hk0 : k = 0
        · have NX : Hid (okK zs (k + 1) = decide (z ≤ 1125899906842624)) := by
            show _ = _; rw [okK, ho, hg']; simp [hk0]
          clear hg'
          have hk0' : (((k : Nat) : Int) == 0) = true := by simp [hk0]
          clear hk0
          go_wp2_with (at_builtin; refine Kd.R_append d48 (w0 := w) w.heap.size rfl (.tmp 33) (.tmp 37) 46 48 (.agg #[(.string ⟨#[]⟩), (.string ⟨#[]⟩), (.int .i64 0), (.int .i64 0)]) 48 rfl Try.underlying46 info48 rfl (by decide) (by omega) u3 (rl 0 (zs.take k)) (⟨wTier, ⟨#[]⟩, z, (k : Nat)⟩ : A48) [.string wTier, .string ⟨#[]⟩, .int .i64 z, .int .i64 (k : Nat)] (fun _ => True) (fun _ => False) rfl (by first | (go_simp; done) | (go_simp; rfl)) ?aP (fun _ hk => hk.elim) ?aF ?aO ?aB ?aS ?aL ?_; (case aP => rfl); (case aF => exact fun _ _ => trivial); (case aO => exact hR); (case aB => exact hb); (case aS => exact hb.size); (case aL => rw [rl_length, List.length_take]; omega); intro v1 w2 hR1 hb2 hg hat; clear hR hb hg hat; have HR1 := hidI hR1; clear hR1)
          go_roundw
          case rel => exact ⟨k + 1, by omega, by go_num, congrArg Value.bool NX.out.symm, by rw [rl_take zs k hlt, ← HE.out]; exact HR1.out, hb2⟩
          case measure => simp [intOf]; omega
        · have hk1 : 0 < k := by omega
          obtain ⟨p, hp⟩ : ∃ p, p = zs[k - 1] := ⟨_, rfl⟩
          have hgp : zs.getD (k - 1) 0 = p := by rw [hp]; simp [List.getD_eq_getElem?_getD, show k - 1 < zs.length from by omega]
          have HP : Hid (w.cell? ⟨b, off + (k - 1), none⟩ = some (.int .i64 p)) := by rw [hp]; exact HX.out (k - 1) (by omega)
          have hk0' : (((k : Nat) : Int) == 0) = false := by simp [hk0]
          clear hp
          by_cases hz : p < z
          · have NX : Hid (okK zs (k + 1) = decide (z ≤ 1125899906842624)) := by
              show _ = _; rw [okK, ho, hg', hgp]; simp [hz]
            clear hg' hgp hk0
            go_wp2_with (at_builtin; refine Kd.R_append d48 (w0 := w) w.heap.size rfl (.tmp 33) (.tmp 37) 46 48 (.agg #[(.string ⟨#[]⟩), (.string ⟨#[]⟩), (.int .i64 0), (.int .i64 0)]) 48 rfl Try.underlying46 info48 rfl (by decide) (by omega) u3 (rl 0 (zs.take k)) (⟨wTier, ⟨#[]⟩, z, (k : Nat)⟩ : A48) [.string wTier, .string ⟨#[]⟩, .int .i64 z, .int .i64 (k : Nat)] (fun _ => True) (fun _ => False) rfl (by first | (go_simp; done) | (go_simp; rfl)) ?aP (fun _ hk => hk.elim) ?aF ?aO ?aB ?aS ?aL ?_; (case aP => rfl); (case aF => exact fun _ _ => trivial); (case aO => exact hR); (case aB => exact hb); (case aS => exact hb.size); (case aL => rw [rl_length, List.length_take]; omega); intro v1 w2 hR1 hb2 hg hat; clear hR hb hg hat; have q2 := pw_cell_below hb2 HP.out; have HR1 := hidI hR1; clear hR1)
            go_roundw
            case rel => exact ⟨k + 1, by omega, by go_num, congrArg Value.bool NX.out.symm, by rw [rl_take zs k hlt, ← HE.out]; exact HR1.out, hb2⟩
            case measure => simp [intOf]; omega
          · have NX : Hid (okK zs (k + 1) = false) := by
              show _ = _; rw [okK, ho, hg', hgp]; simp [hz, hk0]
            clear hg' hgp hk0
            go_wp2_with (at_builtin; refine Kd.R_append d48 (w0 := w) w.heap.size rfl (.tmp 33) (.tmp 37) 46 48 (.agg #[(.string ⟨#[]⟩), (.string ⟨#[]⟩), (.int .i64 0), (.int .i64 0)]) 48 rfl Try.underlying46 info48 rfl (by decide) (by omega) u3 (rl 0 (zs.take k)) (⟨wTier, ⟨#[]⟩, z, (k : Nat)⟩ : A48) [.string wTier, .string ⟨#[]⟩, .int .i64 z, .int .i64 (k : Nat)] (fun _ => True) (fun _ => False) rfl (by first | (go_simp; done) | (go_simp; rfl)) ?aP (fun _ hk => hk.elim) ?aF ?aO ?aB ?aS ?aL ?_; (case aP => rfl); (case aF => exact fun _ _ => trivial); (case aO => exact hR); (case aB => exact hb); (case aS => exact hb.size); (case aL => rw [rl_length, List.length_take]; omega); intro v1 w2 hR1 hb2 hg hat; clear hR hb hg hat; have q2 := pw_cell_below hb2 HP.out; have HR1 := hidI hR1; clear hR1)
            go_roundw
            case rel => exact ⟨k + 1, by omega, by go_num, congrArg Value.bool NX.out.symm, by rw [rl_take zs k hlt, ← HE.out]; exact HR1.out, hb2⟩
            case measure => simp [intOf]; omega
      · have ho' : okK zs k = false := by simpa using ho
        have NX : Hid (okK zs (k + 1) = false) := by
          show _ = _; rw [okK, ho']; simp
        clear hg' ho
        go_wp2_with (at_builtin; refine Kd.R_append d48 (w0 := w) w.heap.size rfl (.tmp 33) (.tmp 37) 46 48 (.agg #[(.string ⟨#[]⟩), (.string ⟨#[]⟩), (.int .i64 0), (.int .i64 0)]) 48 rfl Try.underlying46 info48 rfl (by decide) (by omega) u3 (rl 0 (zs.take k)) (⟨wTier, ⟨#[]⟩, z, (k : Nat)⟩ : A48) [.string wTier, .string ⟨#[]⟩, .int .i64 z, .int .i64 (k : Nat)] (fun _ => True) (fun _ => False) rfl (by first | (go_simp; done) | (go_simp; rfl)) ?aP (fun _ hk => hk.elim) ?aF ?aO ?aB ?aS ?aL ?_; (case aP => rfl); (case aF => exact fun _ _ => trivial); (case aO => exact hR); (case aB => exact hb); (case aS => exact hb.size); (case aL => rw [rl_length, List.length_take]; omega); intro v1 w2 hR1 hb2 hg hat; clear hR hb hg hat; have HR1 := hidI hR1; clear hR1)
        go_roundw
        case rel => exact ⟨k + 1, by omega, by go_num, congrArg Value.bool NX.out.symm, by rw [rl_take zs k hlt, ← HE.out]; exact HR1.out, hb2⟩
        case measure => simp [intOf]; omega
    · have hk' : k = zs.length := by omega
      subst hk'
      rw [List.take_length] at hR
      obtain ⟨A1, c1, rfl, hlc, hC⟩ := Kd.R_reads hR
      have LAW := hidI (law_tiers zs (by omega))
      have hll := rl_length 0 zs
      rw [hll] at hC hlc ⊢
      have HC := hidI hC
      clear hR hC hk hll
      go_wp2_with fail
      have := rl_length 0 zs
      refine (by rw [← this]; exact check_tiers A1 (rl 0 zs) c1 _ (by rw [this]; exact HC.out) (by omega) (rl_tier 0 zs (by omega)) : Calls Try.prog 32 #[.slice A1 zs.length c1] _ _).mono ?_
      rintro e w2 ⟨rfl, hb2⟩
      go_wp2
      go_ret
      exact ⟨ret_bool (by rw [LAW.out]; simp), below_step hb hb2⟩

theorem rdInts_of {P : Program} {t : TypeId} {kd : P.underlying t = some (.int .i64)} {w : World} {A : Option Addr} {zs : List Int} {cap : Nat} (h : Rk.RdSl w (Rk.Kn.int kd).cells (Rk.Kn.int kd).ok 1 A zs cap) : RdInts w A zs := by
  rcases h with ⟨rfl, rfl, rfl⟩ | ⟨p, rfl, hlc, hcm, hok, hsp, hc⟩
  · exact .inl rfl
  · by_cases h0 : zs = []
    · exact .inl h0
    · refine .inr ⟨p.block, p.off, by rw [← Kp.addr_eta (hsp (List.length_pos_iff.2 h0) (by decide))], fun i hi => ?_⟩
      have := hc i hi 0 _ rfl
      rwa [Nat.mul_one, Nat.add_zero] at this
theorem walk6 (A : Option Addr) (zs : List Int) (c : Nat) (w : World) (h : Rk.RdSl w (Rk.Kn.int Try.underlying2).cells (Rk.Kn.int Try.underlying2).ok 1 A zs c) (hlen : zs.length * 8 ≤ 140737488351232) :
    Calls Try.prog 6 #[.slice A zs.length c] w fun e w' => e = .returned (.bool true) ∧ Below w.heap.size w w' :=
  law6 A zs c w (rdInts_of h) (by omega)

end Go.Proofs.Ytliacfjdenfldaa
