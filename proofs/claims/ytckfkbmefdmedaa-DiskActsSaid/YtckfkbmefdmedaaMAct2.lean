/- What the statement leans on, part 2: functions of the program and of the reference as Lean functions, their contracts, and plain laws. -/
import Derived.Laws.StructEq
import Derived.Shelf.SlGeneric
import Derived.Shelf.Spec.SlicesGrow
import Derived.Ground.Names8Prog
import Derived.Test.YtckfkbmefdmedaaMAct1
namespace Go.Proofs.Ytckfkbmefdmedaa
open Go.RowKit Go.Proofs.Kq Go.Proofs.Ytckfkbmefdmedaa.Q
open Go.Proofs.YtckfkbmefdmedaaW.PrintWords (pw_cell_below Kd Kd.C Kd.C_below)
open Go.Proofs.YtckfkbmefdmedaaW.PrintLast
set_option linter.unusedVariables false
set_option linter.unusedSimpArgs false
theorem act_at {w : World} {A : Option Addr} {n : Nat} {l : List S62} (h : Kd.C k62 w A n l) (k : Nat) (hk : k < n) : ∃ b off A4 c4, A = some ⟨b, off, none⟩ ∧ w.cell? ⟨b, off + k * 5, none⟩ = some (.int .u8 (rd_T62 l (k : Int)).f0) ∧ w.cell? ⟨b, off + k * 5 + 1, none⟩ = some (.int .i8 (rd_T62 l (k : Int)).f1) ∧ w.cell? ⟨b, off + k * 5 + 2, none⟩ = some (.int .i8 (rd_T62 l (k : Int)).f2) ∧ w.cell? ⟨b, off + k * 5 + 3, none⟩ = some (.string (rd_T62 l (k : Int)).f3) ∧ w.cell? ⟨b, off + k * 5 + 4, none⟩ = some (.slice A4 (rd_T62 l (k : Int)).f4.length c4) ∧ (rd_T62 l (k : Int)).f4.length ≤ c4 ∧ (Kd.int .u8).C w A4 (rd_T62 l (k : Int)).f4.length (rd_T62 l (k : Int)).f4 := by
  obtain ⟨ad, A4, c4, rfl, h0, h1, h2, h3, h4, hl, hC⟩ := at_T62 h (k : Int) (by omega) (by omega)
  have hsp : ad.spot = none := by
    obtain ⟨ad', _, _, e', h0', _⟩ := at_T62 h 0 (by omega) (by omega)
    cases e'
    have e := Rk.spot_none h0'
    simpa [Addr.add] using e
  have hk' : ((k : Int)).toNat = k := Int.toNat_natCast k
  rw [hk', Kp.addr_eta hsp, Kp.add_plain'] at h0 h1 h2 h3 h4
  exact ⟨ad.block, ad.off, A4, c4, by rw [← Kp.addr_eta hsp], h0, h1, h2, h3, h4, hl, hC⟩
theorem Good.more {n m : Nat} {s : DkS} (h : Good n m s) : Good n (m + 1) s := ⟨h.len, h.b64, h.w64, h.ins, Nat.le_succ_of_le h.few, h.fuse⟩
theorem Good.fail {n m : Nat} {s : DkS} (h : Good n m s) (f : Int) (hf : -9223372036854775808 ≤ f ∧ f ≤ 9223372036854775807) : Good n m ⟨s.bs, s.ps, f, s.dead⟩ := ⟨h.len, h.b64, h.w64, h.ins, h.few, hf⟩
theorem AJ.setg {w wr : World} {d g : Nat} {v1 v2 u1 u2 : Value} {s t : DkS} (h : AJ w wr d g v1 v2 u1 u2 s t) (f : Int) : AJ w (wr.setCell ⟨g, 2, none⟩ (.int .i64 f)) d g v1 v2 u1 u2 s ⟨t.bs, t.ps, f, t.dead⟩ := by
  have hM : RuP w.heap.size g u1 u2 (.returned (.tuple #[])) ⟨t.bs, t.ps, f, t.dead⟩ wr (.returned (.tuple #[])) (wr.setCell ⟨g, 2, none⟩ (.int .i64 f)) := ⟨rfl, u2, h.E.st.1 f, (Fr.refl _ _).setCell (fun _ => .inl rfl) _, fun k hk => .inl hk⟩
  have hE := h.E.st.1 f
  refine ⟨?_, hE, h.bel.setCell (p := ⟨g, 2, none⟩) h.hg _, h.apart, h.hd, h.hg⟩
  exact h.D.fr (S := fun k => k = g) ((Fr.refl (fun k => k = g) wr).setCell (p := ⟨g, 2, none⟩) (fun _ => rfl) _) (fun k hk e => h.apart k hk (.inl e))
theorem read_all (base d : Nat) (v1 v2 : Value) (s : DkS) (at_ : Int) (w : World) (h : DT w base d v1 v2 s) (hlp : s.ps.length ≤ 5000000000000) : Calls Try.prog 31 #[.pointer (some ⟨d, 0, none⟩), .int .i64 at_] w (RdP (rdF s at_) w) := by
  by_cases hu : usF s.bs.length s.dead at_ = 0
  · exact read_any base d v1 v2 s at_ w h hlp hu
  · exact read_bad base d v1 v2 s at_ w h hu
theorem good_new (n : Nat) : Good n 0 ⟨List.replicate n e64, [], -1, false⟩ :=
  ⟨List.length_replicate, fun b hb => by rw [List.eq_of_mem_replicate hb]; exact e64_size, fun p hp => by simp at hp, fun p hp => by simp at hp, Nat.le_refl _, by show (-9223372036854775808 : Int) ≤ -1 ∧ (-1 : Int) ≤ 9223372036854775807; decide⟩
def Tru7 (w : World) (e : Ending) (w' : World) : Prop := e = .returned (.bool true) ∧ Below w.heap.size w w'
set_option maxRecDepth 100000 in
set_option maxHeartbeats 16000000 in
theorem acts_any (n0 : Int) (A : Option Addr) (c0 : Nat) (l : List S62) (w : World) (hn : 0 ≤ n0 ∧ n0 ≤ 255) (hC : Kd.C k62 w A l.length l) (hc : l.length ≤ c0) (hok : ∀ a ∈ l, (0 ≤ a.f0 ∧ a.f0 ≤ 255) ∧ (-128 ≤ a.f1 ∧ a.f1 ≤ 127) ∧ (-128 ≤ a.f2 ∧ a.f2 ≤ 127) ∧ (∀ x ∈ a.f4, 0 ≤ x ∧ x ≤ 255)) (hl : l.length ≤ 3000000000000) :
    Calls Try.prog 7 #[.int .u8 n0, .slice A l.length c0] w (Tru7 w) := by
  have HC := hidI hC
  have HOK := hidI hok
  have HCC := hidI hc
  obtain ⟨bs, K, hK⟩ := small35_ok l (by omega)
  have HSM : Hid (∀ w1, Below w.heap.size w w1 → Calls Try.prog 35 #[.slice A l.length c0] w1 fun e w' => e = .returned (.bool bs) ∧ Below w1.heap.size w1 w') := hidI (fun w1 hb => souklaw05_small.calls K A c0 l bs w1 (Kd.C_below HC.out hb) HCC.out hK)
  clear hC hok hc hK
  cases bs
  · go_enter Try.func7, Try.ntmps7
    go_wp2_with fail
    with_reducible refine (lives05_any w).mono ?_
    rintro e w1 ⟨rfl, hb1⟩
    have HB1 := hidI hb1
    clear hb1
    simp only []
    go_wp2_with fail
    with_reducible refine (HSM.out _ HB1.out).mono ?_
    rintro e w2 ⟨rfl, hb2⟩
    have HB2 := hidI (below_step HB1.out hb2)
    clear hb2
    simp only []
    go_wp2_with fail
    with_reducible refine (lives05_any w2).mono ?_
    rintro e w3 ⟨rfl, hb3⟩
    have hfin : Hid (Tru7 w (.returned (.bool true)) w3) := hidI ⟨rfl, below_step HB2.out hb3⟩
    clear hb3
    simp only []
    go_wp2_with fail
    go_ret
    exact hfin.out
  · go_enter Try.func7, Try.ntmps7
    go_wp2_with fail
    with_reducible refine (lives05_any w).mono ?_
    rintro e w1 ⟨rfl, hb1⟩
    have HB1 := hidI hb1
    clear hb1
    simp only []
    go_wp2_with fail
    with_reducible refine (HSM.out _ HB1.out).mono ?_
    rintro e w2 ⟨rfl, hb2⟩
    have HB2 := hidI (below_step HB1.out hb2)
    clear hb2
    simp only []
    go_wp2_with fail
    obtain ⟨nb, hnb⟩ : ∃ nb : Nat, n0 % 9 = (nb : Int) := ⟨(n0 % 9).toNat, by omega⟩
    have hnb9 : nb < 9 := by omega
    rw [hnb]
    clear hnb
    have hN : Calls Try.prog 23 #[.int .i64 nb] w2 (NwP nb w2) := new_any nb w2 (by omega)
    with_reducible refine hN.mono ?_
    rintro e w3 ⟨d, v1, rfl, hD3, hd, hb3⟩
    have HD3 := hidI hD3
    have HB3 := hidI hb3
    clear hN hD3 hb3
    simp only []
    go_wp2_with fail
    have hN : Calls Try.prog 36 #[.int .i64 nb] w3 (RNw nb w3) := rnew_any nb w3 (by omega)
    with_reducible refine hN.mono ?_
    rintro e w4 ⟨u1, rfl, hE4, hb4⟩
    have HJ4 := hidI (AJ.start HB2.out HD3.out hd HB3.out hE4 (Nat.le_refl _) hb4)
    clear hN hE4 hb4 HD3 HB3 HB2 HB1 hd
    obtain ⟨g, hg⟩ : ∃ g, g = w3.heap.size := ⟨_, rfl⟩
    rw [← hg] at HJ4
    rw [← hg]
    clear hg
    simp only []
    go_wp2_with fail
    go_loopw [31] (fun i wr => ∃ k : Nat, k ≤ l.length ∧ i = .int .i64 k ∧ ∃ v2 u2 s t, Hid (AJ w wr d g v1 v2 u1 u2 s t ∧ Sim s t ∧ Good nb k s ∧ Good nb k t)) (fun i _ => l.length - (intOf i).toNat)
    case atStart => exact ⟨0, Nat.zero_le _, rfl, _, _, _, _, hidI ⟨HJ4.out, Sim.refl _, good_new nb, good_new nb⟩⟩
    case round =>
      obtain ⟨k, hk, rfl, v2, u2, s, t, HI⟩ := hrel
      clear HJ4
      by_cases hlt : k < l.length
      · have hlt' : decide ((k : Int) < (l.length : Int)) = true := decide_eq_true (by omega)
        obtain ⟨b, off, A4, c4, rfl, h0, h1, h2, h3, h4, hl4, hC4⟩ := act_at HC.out k hlt
        have hin : rd_T62 l (k : Int) ∈ l := by
          unfold rd_T62
          rw [Int.toNat_natCast, List.getD_eq_getElem?_getD, List.getElem?_eq_getElem hlt, Option.getD_some]
          exact List.getElem_mem hlt
        have hrng := HOK.out _ hin
        clear hin
        have h0 := pw_cell_below HI.out.1.bel h0
        have h1 := pw_cell_below HI.out.1.bel h1
        have h2 := pw_cell_below HI.out.1.bel h2
        have h3 := pw_cell_below HI.out.1.bel h3
        have h4 := pw_cell_below HI.out.1.bel h4
        generalize rd_T62 l (k : Int) = a at *
        obtain ⟨f0, f1, f2, f3, f4⟩ := a
        obtain ⟨hf0, hf1, hf2, hf4⟩ := hrng
        simp only at h0 h1 h2 h3 h4 hl4 hC4 hf0 hf1 hf2 hf4
        have HK4 := hidI hC4
        have HKV := hidI hf4
        clear hC4 hf4
        have hkk : f0 % 5 = 0 ∨ f0 % 5 = 1 ∨ f0 % 5 = 2 ∨ f0 % 5 = 3 ∨ f0 % 5 = 4 := by omega
        rcases hkk with hkd | hkd | hkd | hkd | hkd
        · as_aux_lemma =>
            have g0 : (f0 % 5 == 0) = true := by rw [hkd]; rfl
            have g1 : (f0 % 5 == 1) = false := by rw [hkd]; rfl
            have g2 : (f0 % 5 == 2) = false := by rw [hkd]; rfl
            have g3 : (f0 % 5 == 3) = false := by rw [hkd]; rfl
            clear hkd
            go_wp2_with fail
            have hB : Blk (wr.alloc (.cells #[.int .u8 f0, .int .i8 f1, .int .i8 f2, .string f3, .slice A4 f4.length c4] 62)) wr.heap.size #[.int .u8 f0, .int .i8 f1, .int .i8 f2, .string f3, .slice A4 f4.length c4] 62 := Blk.new' rfl
            have HJ : Hid (AJ w (wr.alloc (.cells #[.int .u8 f0, .int .i8 f1, .int .i8 f2, .string f3, .slice A4 f4.length c4] 62)) d g v1 v2 u1 u2 s t) := hidI (HI.out.1.below (below_new (Below.refl _ _) _))
            clear h0 h1 h2 h3 h4
            generalize wr.alloc (.cells #[.int .u8 f0, .int .i8 f1, .int .i8 f2, .string f3, .slice A4 f4.length c4] 62) = W at *
            generalize wr.heap.size = x at *
            have q1 : W.cell? ⟨x, 1, none⟩ = some (.int .i8 f1) := hB.c 1
            have q3 : W.cell? ⟨x, 3, none⟩ = some (.string f3) := hB.c 3
            have HB := hidI hB
            clear hB
            clear g0 g1 g2 g3
            obtain ⟨r, hr⟩ : ∃ r, r = (wrS s f1 f3).1 := ⟨_, rfl⟩
            obtain ⟨s3, hs3⟩ : ∃ z, z = (wrS s f1 f3).2 := ⟨_, rfl⟩
            obtain ⟨t3, ht3⟩ : ∃ z, z = (wrS t f1 f3).2 := ⟨_, rfl⟩
            have hsim := wrS_sim HI.out.2.1 f1 f3
            have hW1 := write_any w.heap.size d v1 v2 s f1 f3 W.drew HJ.out.drew.D HJ.out.bel.size HI.out.2.2.1.fuse (Nat.le_trans HI.out.2.2.1.few (by omega))
            rw [← hr, ← hs3] at hW1
            have HW2 : Hid (∀ w5, ET w5 w.heap.size g u1 u2 t → w.heap.size ≤ w5.heap.size → Calls Try.prog 37 #[.pointer (some ⟨g, 0, none⟩), .int .i64 f1, .string f3] w5 (RuP w.heap.size g u1 u2 (.returned (.int .i64 r)) t3 w5)) := hidI (fun w5 hE hb => by
              have := rwrite_any w.heap.size g u1 u2 t f1 f3 w5 hE hb HI.out.2.2.2.fuse (Nat.le_trans HI.out.2.2.2.few (by omega))
              rw [← hsim.1, ← hr, ← ht3] at this
              exact this)
            have HS : Hid (Sim s3 t3 ∧ Good nb (k + 1) s3 ∧ Good nb (k + 1) t3) := hidI (by
              rw [hs3, ht3]; exact ⟨hsim.2, wrS_good HI.out.2.2.1 f1 f3, wrS_good HI.out.2.2.2 f1 f3⟩)
            have hnr : (r != r) = false := by simp
            have HW64 : Hid (wrap64 f1 = f1) := hidI (by unfold wrap64; omega)
            clear hr hs3 ht3 hsim
            refine start_ (n := 15) (S := fun w' => w'.cell? ⟨x, 1, none⟩ = some (.int .i8 f1) ∧ w'.cell? ⟨x, 3, none⟩ = some (.string f3)) (ds := []) #[false, false, false, false, false, false, false, false, false, false, false, false, false, false, false] (by kernel_rfl) rfl rfl ⟨q1, q3⟩ (fun hHeld => ?_)
            refine pure_ (i := 0) (N := some 48) (v := ?_) (a' := ?_) #[true, false, false, false, false, false, false, false, false, false, false, false, false, false, false] rfl rfl (by kernel_rfl) (fun _ _ _ h => h) (Or.inl ⟨by rfl, ?_⟩) ?_ ?_
            rotate_left
            · intro w'
              go_simp
              with_reducible rfl
            rotate_left
            · simp only [Act.put, List.setIfInBounds_toArray, List.set_cons_zero, List.set_cons_succ, i64_w, i32_w]
              rfl
            refine pure_ (i := 1) (N := some 49) (v := ?_) (a' := ?_) #[true, true, false, false, false, false, false, false, false, false, false, false, false, false, false] rfl rfl (by kernel_rfl) (fun _ _ _ h => h) (Or.inl ⟨by rfl, ?_⟩) ?_ ?_
            rotate_left
            · intro w'
              go_simp
              with_reducible rfl
            rotate_left
            · simp only [Act.put, List.setIfInBounds_toArray, List.set_cons_zero, List.set_cons_succ, i64_w, i32_w]
              rfl
            refine pure_ (i := 4) (N := some 52) (v := ?_) (a' := ?_) #[true, true, false, false, true, false, false, false, false, false, false, false, false, false, false] rfl rfl (by kernel_rfl) (fun _ _ _ h => h) (Or.inl ⟨by rfl, ?_⟩) ?_ ?_
            rotate_left
            · intro w'
              go_simp
              with_reducible rfl
            rotate_left
            · simp only [Act.put, List.setIfInBounds_toArray, List.set_cons_zero, List.set_cons_succ, i64_w, i32_w]
              rfl
            refine pure_ (i := 7) (N := some 55) (v := ?_) (a' := ?_) #[true, true, false, false, true, false, false, true, false, false, false, false, false, false, false] rfl rfl (by kernel_rfl) (fun _ _ _ h => h) (Or.inl ⟨by rfl, ?_⟩) ?_ ?_
            rotate_left
            · intro w'
              go_simp
              with_reducible rfl
            rotate_left
            · simp only [Act.put, List.setIfInBounds_toArray, List.set_cons_zero, List.set_cons_succ, i64_w, i32_w]
              rfl
            refine pure_ (i := 8) (N := some 56) (v := ?_) (a' := ?_) #[true, true, false, false, true, false, false, true, true, false, false, false, false, false, false] rfl rfl (by kernel_rfl) (fun _ _ _ h => h) (Or.inl ⟨by rfl, ?_⟩) ?_ ?_
            rotate_left
            · intro w'
              go_simp
              with_reducible rfl
            rotate_left
            · simp only [Act.put, List.setIfInBounds_toArray, List.set_cons_zero, List.set_cons_succ, i64_w, i32_w]
              rfl
            refine pure_ (i := 11) (N := some 59) (v := ?_) (a' := ?_) #[true, true, false, false, true, false, false, true, true, false, false, true, false, false, false] rfl rfl (by kernel_rfl) (fun _ _ _ h => h) (Or.inl ⟨by rfl, ?_⟩) ?_ ?_
            rotate_left
            · intro w'
              go_simp
              with_reducible rfl
            rotate_left
            · simp only [Act.put, List.setIfInBounds_toArray, List.set_cons_zero, List.set_cons_succ, i64_w, i32_w]
              rfl
            refine take_ (i := 2) (N := some 50) (v := ?_) (a' := ?_) #[true, true, true, false, true, false, false, true, true, false, false, true, false, false, false] rfl rfl (by kernel_rfl) (fun _ _ _ h => h) (Or.inl ⟨by rfl, ?_⟩) hHeld ?_ ?_
            rotate_left
            · rintro w' ⟨s0, s1⟩
              go_simp
              with_reducible rfl
            rotate_left
            · simp only [Act.put, List.setIfInBounds_toArray, List.set_cons_zero, List.set_cons_succ, i64_w, i32_w]
              rfl
            refine pure_ (i := 3) (N := some 51) (v := ?_) (a' := ?_) #[true, true, true, true, true, false, false, true, true, false, false, true, false, false, false] rfl rfl (by kernel_rfl) (fun _ _ _ h => h) (Or.inl ⟨by rfl, ?_⟩) ?_ ?_
            rotate_left
            · intro w'
              go_simp
              with_reducible rfl
            rotate_left
            · simp only [Act.put, List.setIfInBounds_toArray, List.set_cons_zero, List.set_cons_succ, i64_w, i32_w]
              rfl
            refine take_ (i := 5) (N := some 53) (v := ?_) (a' := ?_) #[true, true, true, true, true, true, false, true, true, false, false, true, false, false, false] rfl rfl (by kernel_rfl) (fun _ _ _ h => h) (Or.inl ⟨by rfl, ?_⟩) hHeld ?_ ?_
            rotate_left
            · rintro w' ⟨s0, s1⟩
              go_simp
              with_reducible rfl
            rotate_left
            · simp only [Act.put, List.setIfInBounds_toArray, List.set_cons_zero, List.set_cons_succ, i64_w, i32_w]
              rfl
            refine take_ (i := 9) (N := some 57) (v := ?_) (a' := ?_) #[true, true, true, true, true, true, false, true, true, true, false, true, false, false, false] rfl rfl (by kernel_rfl) (fun _ _ _ h => h) (Or.inl ⟨by rfl, ?_⟩) hHeld ?_ ?_
            rotate_left
            · rintro w' ⟨s0, s1⟩
              go_simp
              with_reducible rfl
            rotate_left
            · simp only [Act.put, List.setIfInBounds_toArray, List.set_cons_zero, List.set_cons_succ, i64_w, i32_w]
              rfl
            refine pure_ (i := 10) (N := some 58) (v := ?_) (a' := ?_) #[true, true, true, true, true, true, false, true, true, true, true, true, false, false, false] rfl rfl (by kernel_rfl) (fun _ _ _ h => h) (Or.inl ⟨by rfl, ?_⟩) ?_ ?_
            rotate_left
            · intro w'
              go_simp
              with_reducible rfl
            rotate_left
            · simp only [Act.put, List.setIfInBounds_toArray, List.set_cons_zero, List.set_cons_succ, i64_w, i32_w]
              rfl
            refine take_ (i := 12) (N := some 60) (v := ?_) (a' := ?_) #[true, true, true, true, true, true, false, true, true, true, true, true, true, false, false] rfl rfl (by kernel_rfl) (fun _ _ _ h => h) (Or.inl ⟨by rfl, ?_⟩) hHeld ?_ ?_
            rotate_left
            · rintro w' ⟨s0, s1⟩
              go_simp
              with_reducible rfl
            rotate_left
            · simp only [Act.put, List.setIfInBounds_toArray, List.set_cons_zero, List.set_cons_succ, i64_w, i32_w]
              rfl
            refine one_ (i := 6) (N := some 54) #[true, true, true, true, true, true, true, true, true, true, true, true, true, false, false] rfl rfl (by kernel_rfl) (by decide) (fun K hK => ?_)
            refine goes_ Try.func26 (by kernel_rfl) rfl #[.pointer (some ⟨d, 0, none⟩), .int .i64 f1, .string f3] (by rfl) rfl rfl (Eq.trans (b := #[.pointer (some ⟨d, 0, none⟩), .int .i64 (wrap64 f1), .string f3]) (by simp only [List.map_toArray, List.map_cons, List.map_nil]; rfl) (by rw [HW64.out])) ?_
            with_reducible refine hW1.mono ?_
            intro e w5 hM
            obtain ⟨rfl, v3, hJ5, hX5⟩ := HJ.out.drew.mu hM
            have hB5 := hX5 x _ HB.out
            have z1 : w5.cell? ⟨x, 1, none⟩ = some (.int .i8 f1) := hB5.c 1
            have z3 : w5.cell? ⟨x, 3, none⟩ = some (.string f3) := hB5.c 3
            have HJ5 := hidI hJ5
            have HB5 := hidI hB5
            clear hM hJ5 hX5 hB5 hW1
            refine ⟨_, rfl, ?_⟩
            refine hK.out _ _ ⟨z1, z3⟩ (fun hHeld => ?_)
            clear hK K
            refine norm_ (a' := ?_) ?_ ?_
            rotate_left
            · show Act.put _ (some 54) _ = _
              simp only [Act.put, List.setIfInBounds_toArray, List.set_cons_zero, List.set_cons_succ, i64_w, i32_w]
              rfl
            refine one_ (i := 13) (N := some 61) #[true, true, true, true, true, true, true, true, true, true, true, true, true, true, false] rfl rfl (by kernel_rfl) (by decide) (fun K hK => ?_)
            refine goes_ Try.func37 (by kernel_rfl) rfl #[.pointer (some ⟨g, 0, none⟩), .int .i64 f1, .string f3] (by rfl) rfl rfl (Eq.trans (b := #[.pointer (some ⟨g, 0, none⟩), .int .i64 (wrap64 f1), .string f3]) (by simp only [List.map_toArray, List.map_cons, List.map_nil]; rfl) (by rw [HW64.out])) ?_
            with_reducible refine (HW2.out _ HJ5.out.E HJ5.out.bel.size).mono ?_
            intro e w6 hM
            obtain ⟨rfl, u3, hJ6, hX6⟩ := HJ5.out.ru hM
            have hB6 := hX6 x _ HB5.out
            have y1 : w6.cell? ⟨x, 1, none⟩ = some (.int .i8 f1) := hB6.c 1
            have y3 : w6.cell? ⟨x, 3, none⟩ = some (.string f3) := hB6.c 3
            have HJ6 := hidI hJ6
            clear hM hJ6 hX6 hB6
            refine ⟨_, rfl, ?_⟩
            refine hK.out _ _ ⟨y1, y3⟩ (fun hHeld => ?_)
            clear hK K
            refine norm_ (a' := ?_) ?_ ?_
            rotate_left
            · show Act.put _ (some 61) _ = _
              simp only [Act.put, List.setIfInBounds_toArray, List.set_cons_zero, List.set_cons_succ, i64_w, i32_w]
              rfl
            refine pure_ (i := 14) (N := some 62) (v := ?_) (a' := ?_) #[true, true, true, true, true, true, true, true, true, true, true, true, true, true, true] rfl rfl (by kernel_rfl) (fun _ _ _ h => h) (Or.inl ⟨by rfl, ?_⟩) ?_ ?_
            rotate_left
            · intro w'
              go_simp
              with_reducible rfl
            rotate_left
            · simp only [Act.put, List.setIfInBounds_toArray, List.set_cons_zero, List.set_cons_succ, i64_w, i32_w]
              rfl
            refine done_ (by kernel_rfl) ?_
            clear hHeld
            have HN : Hid (AJ w w6 d g v1 v3 u1 u3 s3 t3 ∧ Sim s3 t3 ∧ Good nb (k + 1) s3 ∧ Good nb (k + 1) t3) := hidI ⟨HJ6.out, HS.out⟩
            clear HS HJ6 HJ5 HB5 HW2 z1 z3 y1 y3 q1 q3
            generalize w6 = W5 at *
            go_wp2_with fail
            have hJ := HN.out.1
            have hdead := HN.out.2.1.dead
            have hbs := HN.out.2.1.bs
            have hlen := HN.out.2.2.1.len
            have hDead := dead_any w.heap.size d v1 v3 s3 W5.drew hJ.drew.D
            have hLen := len_any w.heap.size d v1 v3 s3 W5.drew hJ.drew.D
            have hAll := all_any w.heap.size d v1 v3 s3 W5.drew hJ.drew.D (by omega)
            have HJE : Hid (ET W5.drew w.heap.size g u1 u3 t3) := hidI hJ.drew.E
            obtain ⟨bb, hbb⟩ : ∃ bb, bb = s3.bs := ⟨_, rfl⟩
            obtain ⟨dd, hdd⟩ : ∃ dd, dd = s3.dead := ⟨_, rfl⟩
            have HBL : Hid (bb.length ≤ 1000000) := hidI (by rw [hbb]; omega)
            have e3 : W5.cell? ⟨g, 3, none⟩ = some (.bool dd) := by rw [hdd, hdead]; exact hJ.E.blk.c 3
            have e0 : W5.cell? ⟨g, 0, none⟩ = some u1 := hJ.E.blk.c 0
            rw [← hdd] at hDead
            rw [hlen] at hLen
            rw [← hbb] at hAll
            have HJE2 : Hid (Et W5.drew w.heap.size g u1 u3 bb t3.ps t3.fuse t3.dead) := hidI (by rw [hbb, hbs]; exact HJE.out)
            clear HJE
            have HJE := HJE2
            clear HJE2
            have hn1 : (dd != dd) = false := by simp
            have hn2 : ((nb : Int) != (nb : Int)) = false := by simp
            clear hJ hdead hbs hlen hbb hdd
            refine start_ (n := 23) (S := fun w' => w'.cell? ⟨g, 3, none⟩ = some (.bool dd) ∧ w'.cell? ⟨g, 0, none⟩ = some u1) (ds := []) #[false, false, false, false, false, false, false, false, false, false, false, false, false, false, false, false, false, false, false, false, false, false, false] (by kernel_rfl) rfl rfl ⟨e3, e0⟩ (fun hHeld => ?_)
            refine pure_ (i := 0) (N := some 110) (v := ?_) (a' := ?_) #[true, false, false, false, false, false, false, false, false, false, false, false, false, false, false, false, false, false, false, false, false, false, false] rfl rfl (by kernel_rfl) (fun _ _ _ h => h) (Or.inl ⟨by rfl, ?_⟩) ?_ ?_
            rotate_left
            · intro w'
              go_simp
              with_reducible rfl
            rotate_left
            · simp only [Act.put, List.setIfInBounds_toArray, List.set_cons_zero, List.set_cons_succ, i64_w, i32_w]
              rfl
            refine pure_ (i := 2) (N := some 112) (v := ?_) (a' := ?_) #[true, false, true, false, false, false, false, false, false, false, false, false, false, false, false, false, false, false, false, false, false, false, false] rfl rfl (by kernel_rfl) (fun _ _ _ h => h) (Or.inl ⟨by rfl, ?_⟩) ?_ ?_
            rotate_left
            · intro w'
              go_simp
              with_reducible rfl
            rotate_left
            · simp only [Act.put, List.setIfInBounds_toArray, List.set_cons_zero, List.set_cons_succ, i64_w, i32_w]
              rfl
            refine pure_ (i := 3) (N := some 113) (v := ?_) (a' := ?_) #[true, false, true, true, false, false, false, false, false, false, false, false, false, false, false, false, false, false, false, false, false, false, false] rfl rfl (by kernel_rfl) (fun _ _ _ h => h) (Or.inl ⟨by rfl, ?_⟩) ?_ ?_
            rotate_left
            · intro w'
              go_simp
              with_reducible rfl
            rotate_left
            · simp only [Act.put, List.setIfInBounds_toArray, List.set_cons_zero, List.set_cons_succ, i64_w, i32_w]
              rfl
            refine pure_ (i := 4) (N := some 114) (v := ?_) (a' := ?_) #[true, false, true, true, true, false, false, false, false, false, false, false, false, false, false, false, false, false, false, false, false, false, false] rfl rfl (by kernel_rfl) (fun _ _ _ h => h) (Or.inl ⟨by rfl, ?_⟩) ?_ ?_
            rotate_left
            · intro w'
              go_simp
              with_reducible rfl
            rotate_left
            · simp only [Act.put, List.setIfInBounds_toArray, List.set_cons_zero, List.set_cons_succ, i64_w, i32_w]
              rfl
            refine take_ (i := 5) (N := some 115) (v := ?_) (a' := ?_) #[true, false, true, true, true, true, false, false, false, false, false, false, false, false, false, false, false, false, false, false, false, false, false] rfl rfl (by kernel_rfl) (fun _ _ _ h => h) (Or.inl ⟨by rfl, ?_⟩) hHeld ?_ ?_
            rotate_left
            · rintro w' ⟨s0, s1⟩
              go_simp
              with_reducible rfl
            rotate_left
            · simp only [Act.put, List.setIfInBounds_toArray, List.set_cons_zero, List.set_cons_succ, i64_w, i32_w]
              rfl
            refine one_ (i := 1) (N := some 111) #[true, true, true, true, true, true, false, false, false, false, false, false, false, false, false, false, false, false, false, false, false, false, false] rfl rfl (by kernel_rfl) (by decide) (fun K hK => ?_)
            refine goes_ Try.func34 (by kernel_rfl) rfl #[.pointer (some ⟨d, 0, none⟩)] (by rfl) rfl rfl (by simp only [List.map_toArray, List.map_cons, List.map_nil]; rfl) ?_
            with_reducible refine (hDead).mono ?_
            rintro e wa ⟨rfl, hwa⟩
            subst hwa
            refine ⟨_, rfl, ?_⟩
            refine hK.out _ _ ⟨e3, e0⟩ (fun hHeld => ?_)
            clear hK K
            refine norm_ (a' := ?_) ?_ ?_
            rotate_left
            · show Act.put _ (some 111) _ = _
              simp only [Act.put, List.setIfInBounds_toArray, List.set_cons_zero, List.set_cons_succ, i64_w, i32_w]
              rfl
            refine pure_ (i := 6) (N := some 116) (v := ?_) (a' := ?_) #[true, true, true, true, true, true, true, false, false, false, false, false, false, false, false, false, false, false, false, false, false, false, false] rfl rfl (by kernel_rfl) (fun _ _ _ h => h) (Or.inl ⟨by rfl, ?_⟩) ?_ ?_
            rotate_left
            · intro w'
              go_simp
              with_reducible rfl
            rotate_left
            · simp only [Act.put, List.setIfInBounds_toArray, List.set_cons_zero, List.set_cons_succ, i64_w, i32_w]
              rfl
            refine pure_ (i := 7) (N := some 117) (v := ?_) (a' := ?_) #[true, true, true, true, true, true, true, true, false, false, false, false, false, false, false, false, false, false, false, false, false, false, false] rfl rfl (by kernel_rfl) (fun _ _ _ h => h) (Or.inl ⟨by rfl, ?_⟩) ?_ ?_
            rotate_left
            · intro w'
              go_simp
              with_reducible rfl
            rotate_left
            · simp only [Act.put, List.setIfInBounds_toArray, List.set_cons_zero, List.set_cons_succ, i64_w, i32_w]
              rfl
            refine pure_ (i := 8) (N := some 118) (v := ?_) (a' := ?_) #[true, true, true, true, true, true, true, true, true, false, false, false, false, false, false, false, false, false, false, false, false, false, false] rfl rfl (by kernel_rfl) (fun _ _ _ h => h) (Or.inl ⟨by rfl, ?_⟩) ?_ ?_
            rotate_left
            · intro w'
              go_simp
              with_reducible rfl
            rotate_left
            · simp only [Act.put, List.setIfInBounds_toArray, List.set_cons_zero, List.set_cons_succ, i64_w, i32_w]
              rfl
            refine pure_ (i := 10) (N := some 120) (v := ?_) (a' := ?_) #[true, true, true, true, true, true, true, true, true, false, true, false, false, false, false, false, false, false, false, false, false, false, false] rfl rfl (by kernel_rfl) (fun _ _ _ h => h) (Or.inl ⟨by rfl, ?_⟩) ?_ ?_
            rotate_left
            · intro w'
              go_simp
              with_reducible rfl
            rotate_left
            · simp only [Act.put, List.setIfInBounds_toArray, List.set_cons_zero, List.set_cons_succ, i64_w, i32_w]
              rfl
            refine one_ (i := 9) (N := some 119) #[true, true, true, true, true, true, true, true, true, true, true, false, false, false, false, false, false, false, false, false, false, false, false] rfl rfl (by kernel_rfl) (by decide) (fun K hK => ?_)
            refine goes_ Try.func33 (by kernel_rfl) rfl #[.pointer (some ⟨d, 0, none⟩)] (by rfl) rfl rfl (by simp only [List.map_toArray, List.map_cons, List.map_nil]; rfl) ?_
            with_reducible refine (hLen).mono ?_
            rintro e wb ⟨rfl, hwb⟩
            subst hwb
            refine ⟨_, rfl, ?_⟩
            refine hK.out _ _ ⟨e3, e0⟩ (fun hHeld => ?_)
            clear hK K
            refine norm_ (a' := ?_) ?_ ?_
            rotate_left
            · show Act.put _ (some 119) _ = _
              simp only [Act.put, List.setIfInBounds_toArray, List.set_cons_zero, List.set_cons_succ, i64_w, i32_w]
              rfl
            refine pure_ (i := 11) (N := some 121) (v := ?_) (a' := ?_) #[true, true, true, true, true, true, true, true, true, true, true, true, false, false, false, false, false, false, false, false, false, false, false] rfl rfl (by kernel_rfl) (fun _ _ _ h => h) (Or.inl ⟨by rfl, ?_⟩) ?_ ?_
            rotate_left
            · intro w'
              go_simp
              with_reducible rfl
            rotate_left
            · simp only [Act.put, List.setIfInBounds_toArray, List.set_cons_zero, List.set_cons_succ, i64_w, i32_w]
              rfl
            refine pure_ (i := 12) (N := some 122) (v := ?_) (a' := ?_) #[true, true, true, true, true, true, true, true, true, true, true, true, true, false, false, false, false, false, false, false, false, false, false] rfl rfl (by kernel_rfl) (fun _ _ _ h => h) (Or.inl ⟨by rfl, ?_⟩) ?_ ?_
            rotate_left
            · intro w'
              go_simp
              with_reducible rfl
            rotate_left
            · simp only [Act.put, List.setIfInBounds_toArray, List.set_cons_zero, List.set_cons_succ, i64_w, i32_w]
              rfl
            refine pure_ (i := 13) (N := some 123) (v := ?_) (a' := ?_) #[true, true, true, true, true, true, true, true, true, true, true, true, true, true, false, false, false, false, false, false, false, false, false] rfl rfl (by kernel_rfl) (fun _ _ _ h => h) (Or.inl ⟨by rfl, ?_⟩) ?_ ?_
            rotate_left
            · intro w'
              go_simp
              with_reducible rfl
            rotate_left
            · simp only [Act.put, List.setIfInBounds_toArray, List.set_cons_zero, List.set_cons_succ, i64_w, i32_w]
              rfl
            refine pure_ (i := 14) (N := some 124) (v := ?_) (a' := ?_) #[true, true, true, true, true, true, true, true, true, true, true, true, true, true, true, false, false, false, false, false, false, false, false] rfl rfl (by kernel_rfl) (fun _ _ _ h => h) (Or.inl ⟨by rfl, ?_⟩) ?_ ?_
            rotate_left
            · intro w'
              go_simp
              with_reducible rfl
            rotate_left
            · simp only [Act.put, List.setIfInBounds_toArray, List.set_cons_zero, List.set_cons_succ, i64_w, i32_w]
              rfl
            refine pure_ (i := 16) (N := some 126) (v := ?_) (a' := ?_) #[true, true, true, true, true, true, true, true, true, true, true, true, true, true, true, false, true, false, false, false, false, false, false] rfl rfl (by kernel_rfl) (fun _ _ _ h => h) (Or.inl ⟨by rfl, ?_⟩) ?_ ?_
            rotate_left
            · intro w'
              go_simp
              with_reducible rfl
            rotate_left
            · simp only [Act.put, List.setIfInBounds_toArray, List.set_cons_zero, List.set_cons_succ, i64_w, i32_w]
              rfl
            refine pure_ (i := 17) (N := some 127) (v := ?_) (a' := ?_) #[true, true, true, true, true, true, true, true, true, true, true, true, true, true, true, false, true, true, false, false, false, false, false] rfl rfl (by kernel_rfl) (fun _ _ _ h => h) (Or.inl ⟨by rfl, ?_⟩) ?_ ?_
            rotate_left
            · intro w'
              go_simp
              with_reducible rfl
            rotate_left
            · simp only [Act.put, List.setIfInBounds_toArray, List.set_cons_zero, List.set_cons_succ, i64_w, i32_w]
              rfl
            refine pure_ (i := 18) (N := some 128) (v := ?_) (a' := ?_) #[true, true, true, true, true, true, true, true, true, true, true, true, true, true, true, false, true, true, true, false, false, false, false] rfl rfl (by kernel_rfl) (fun _ _ _ h => h) (Or.inl ⟨by rfl, ?_⟩) ?_ ?_
            rotate_left
            · intro w'
              go_simp
              with_reducible rfl
            rotate_left
            · simp only [Act.put, List.setIfInBounds_toArray, List.set_cons_zero, List.set_cons_succ, i64_w, i32_w]
              rfl
            refine take_ (i := 19) (N := some 129) (v := ?_) (a' := ?_) #[true, true, true, true, true, true, true, true, true, true, true, true, true, true, true, false, true, true, true, true, false, false, false] rfl rfl (by kernel_rfl) (fun _ _ _ h => h) (Or.inl ⟨by rfl, ?_⟩) hHeld ?_ ?_
            rotate_left
            · rintro w' ⟨s0, s1⟩
              go_simp
              with_reducible rfl
            rotate_left
            · simp only [Act.put, List.setIfInBounds_toArray, List.set_cons_zero, List.set_cons_succ, i64_w, i32_w]
              rfl
            refine one_ (i := 15) (N := some 125) #[true, true, true, true, true, true, true, true, true, true, true, true, true, true, true, true, true, true, true, true, false, false, false] rfl rfl (by kernel_rfl) (by decide) (fun K hK => ?_)
            refine goes_ Try.func28 (by kernel_rfl) rfl #[.pointer (some ⟨d, 0, none⟩)] (by rfl) rfl rfl (by simp only [List.map_toArray, List.map_cons, List.map_nil]; rfl) ?_
            with_reducible refine (hAll).mono ?_
            rintro e wc ⟨vw, rfl, hOc, hbc⟩
            have HOC := hidI hOc
            have HBC := hidI hbc
            have x3 := pw_cell_below hbc e3
            have x0 := pw_cell_below hbc e0
            clear hOc hbc
            refine ⟨_, rfl, ?_⟩
            refine hK.out _ _ ⟨x3, x0⟩ (fun hHeld => ?_)
            clear hK K
            refine norm_ (a' := ?_) ?_ ?_
            rotate_left
            · show Act.put _ (some 125) _ = _
              simp only [Act.put, List.setIfInBounds_toArray, List.set_cons_zero, List.set_cons_succ, i64_w, i32_w]
              rfl
            refine one_ (i := 20) (N := some 130) #[true, true, true, true, true, true, true, true, true, true, true, true, true, true, true, true, true, true, true, true, true, false, false] rfl rfl (by kernel_rfl) (by decide) (fun K hK => ?_)
            refine goes_ Try.func21 (by kernel_rfl) rfl #[vw, u1] (by rfl) rfl rfl (by simp only [List.map_toArray, List.map_cons, List.map_nil]; rfl) ?_
            with_reducible refine (equal_same _ _ vw u1 bb wc HOC.out (HJE.out.own.below HBC.out) HBL.out).mono ?_
            rintro e wd ⟨rfl, mq, hwd⟩
            subst hwd
            have m3 := pw_cell_below (below_drewN (Below.refl wc.heap.size wc) mq) x3
            have m0 := pw_cell_below (below_drewN (Below.refl wc.heap.size wc) mq) x0
            refine ⟨_, rfl, ?_⟩
            refine hK.out _ _ ⟨m3, m0⟩ (fun hHeld => ?_)
            clear hK K
            refine norm_ (a' := ?_) ?_ ?_
            rotate_left
            · show Act.put _ (some 130) _ = _
              simp only [Act.put, List.setIfInBounds_toArray, List.set_cons_zero, List.set_cons_succ, i64_w, i32_w]
              rfl
            refine pure_ (i := 21) (N := some 131) (v := ?_) (a' := ?_) #[true, true, true, true, true, true, true, true, true, true, true, true, true, true, true, true, true, true, true, true, true, true, false] rfl rfl (by kernel_rfl) (fun _ _ _ h => h) (Or.inl ⟨by rfl, ?_⟩) ?_ ?_
            rotate_left
            · intro w'
              go_simp
              with_reducible rfl
            rotate_left
            · simp only [Act.put, List.setIfInBounds_toArray, List.set_cons_zero, List.set_cons_succ, i64_w, i32_w]
              rfl
            refine pure_ (i := 22) (N := some 132) (v := ?_) (a' := ?_) #[true, true, true, true, true, true, true, true, true, true, true, true, true, true, true, true, true, true, true, true, true, true, true] rfl rfl (by kernel_rfl) (fun _ _ _ h => h) (Or.inl ⟨by rfl, ?_⟩) ?_ ?_
            rotate_left
            · intro w'
              go_simp
              with_reducible rfl
            rotate_left
            · simp only [Act.put, List.setIfInBounds_toArray, List.set_cons_zero, List.set_cons_succ, i64_w, i32_w]
              rfl
            refine done_ (by kernel_rfl) ?_
            clear hHeld
            have HF : Hid (AJ w (wc.drewN mq) d g v1 v3 u1 u3 s3 t3 ∧ Sim s3 t3 ∧ Good nb (k + 1) s3 ∧ Good nb (k + 1) t3) := hidI ⟨(HN.out.1.drew.below HBC.out).drewN mq, HN.out.2⟩
            go_wp2_with fail
            go_roundw
            · exact ⟨k + 1, by omega, by simp, v3, u3, s3, t3, HF⟩
            · simp [intOf]; omega
        · as_aux_lemma =>
            have g0 : (f0 % 5 == 0) = false := by rw [hkd]; rfl
            have g1 : (f0 % 5 == 1) = true := by rw [hkd]; rfl
            have g2 : (f0 % 5 == 2) = false := by rw [hkd]; rfl
            have g3 : (f0 % 5 == 3) = false := by rw [hkd]; rfl
            clear hkd
            go_wp2_with fail
            have hB : Blk (wr.alloc (.cells #[.int .u8 f0, .int .i8 f1, .int .i8 f2, .string f3, .slice A4 f4.length c4] 62)) wr.heap.size #[.int .u8 f0, .int .i8 f1, .int .i8 f2, .string f3, .slice A4 f4.length c4] 62 := Blk.new' rfl
            have HJ : Hid (AJ w (wr.alloc (.cells #[.int .u8 f0, .int .i8 f1, .int .i8 f2, .string f3, .slice A4 f4.length c4] 62)) d g v1 v2 u1 u2 s t) := hidI (HI.out.1.below (below_new (Below.refl _ _) _))
            clear h0 h1 h2 h3 h4
            generalize wr.alloc (.cells #[.int .u8 f0, .int .i8 f1, .int .i8 f2, .string f3, .slice A4 f4.length c4] 62) = W at *
            generalize wr.heap.size = x at *
            have q1 : W.cell? ⟨x, 1, none⟩ = some (.int .i8 f1) := hB.c 1
            have q3 : W.cell? ⟨x, 3, none⟩ = some (.string f3) := hB.c 3
            have HB := hidI hB
            clear hB
            clear g0 g1 g2 g3
            obtain ⟨r, hr⟩ : ∃ r, r = (syS s).1 := ⟨_, rfl⟩
            obtain ⟨s3, hs3⟩ : ∃ z, z = (syS s).2 := ⟨_, rfl⟩
            obtain ⟨t3, ht3⟩ : ∃ z, z = (syS t).2 := ⟨_, rfl⟩
            have hsim := syS_sim HI.out.2.1
            have hW1 := sync_any w.heap.size d v1 v2 s W HJ.out.D HI.out.2.2.1.fuse (Nat.le_trans HI.out.2.2.1.few (by omega)) (by rw [HI.out.2.2.1.len]; exact HI.out.2.2.1.ins)
            rw [← hr, ← hs3] at hW1
            have HW2 : Hid (∀ w5, ET w5 w.heap.size g u1 u2 t → w.heap.size ≤ w5.heap.size → Calls Try.prog 38 #[.pointer (some ⟨g, 0, none⟩)] w5 (RuP w.heap.size g u1 u2 (.returned (.int .i64 r)) t3 w5)) := hidI (fun w5 hE hb => by
              have := rsync_any w.heap.size g u1 u2 t w5 hE HI.out.2.2.2.fuse (Nat.le_trans HI.out.2.2.2.few (by omega)) (by rw [HI.out.2.2.2.len]; exact HI.out.2.2.2.ins)
              rw [← hsim.1, ← hr, ← ht3] at this
              exact this)
            have HS : Hid (Sim s3 t3 ∧ Good nb (k + 1) s3 ∧ Good nb (k + 1) t3) := hidI (by
              rw [hs3, ht3]; exact ⟨hsim.2, (syS_good HI.out.2.2.1).more, (syS_good HI.out.2.2.2).more⟩)
            have hnr : (r != r) = false := by simp
            clear hr hs3 ht3 hsim q1 q3
            with_reducible refine hW1.mono ?_
            intro e w5 hM
            obtain ⟨rfl, v3, hJ5, hX5⟩ := HJ.out.mu hM
            have HJ5 := hidI hJ5
            clear hM hJ5 hX5 hW1
            simp only []
            go_wp2_with fail
            with_reducible refine (HW2.out _ HJ5.out.E HJ5.out.bel.size).mono ?_
            intro e w6 hM
            obtain ⟨rfl, u3, hJ6, hX6⟩ := HJ5.out.ru hM
            have HN : Hid (AJ w w6 d g v1 v3 u1 u3 s3 t3 ∧ Sim s3 t3 ∧ Good nb (k + 1) s3 ∧ Good nb (k + 1) t3) := hidI ⟨hJ6, HS.out⟩
            clear hM hJ6 hX6 HJ5 HW2 HS
            generalize w6 = W5 at *
            simp only []
            go_wp2_with fail
            have hJ := HN.out.1
            have hdead := HN.out.2.1.dead
            have hbs := HN.out.2.1.bs
            have hlen := HN.out.2.2.1.len
            have hDead := dead_any w.heap.size d v1 v3 s3 W5.drew hJ.drew.D
            have hLen := len_any w.heap.size d v1 v3 s3 W5.drew hJ.drew.D
            have hAll := all_any w.heap.size d v1 v3 s3 W5.drew hJ.drew.D (by omega)
            have HJE : Hid (ET W5.drew w.heap.size g u1 u3 t3) := hidI hJ.drew.E
            obtain ⟨bb, hbb⟩ : ∃ bb, bb = s3.bs := ⟨_, rfl⟩
            obtain ⟨dd, hdd⟩ : ∃ dd, dd = s3.dead := ⟨_, rfl⟩
            have HBL : Hid (bb.length ≤ 1000000) := hidI (by rw [hbb]; omega)
            have e3 : W5.cell? ⟨g, 3, none⟩ = some (.bool dd) := by rw [hdd, hdead]; exact hJ.E.blk.c 3
            have e0 : W5.cell? ⟨g, 0, none⟩ = some u1 := hJ.E.blk.c 0
            rw [← hdd] at hDead
            rw [hlen] at hLen
            rw [← hbb] at hAll
            have HJE2 : Hid (Et W5.drew w.heap.size g u1 u3 bb t3.ps t3.fuse t3.dead) := hidI (by rw [hbb, hbs]; exact HJE.out)
            clear HJE
            have HJE := HJE2
            clear HJE2
            have hn1 : (dd != dd) = false := by simp
            have hn2 : ((nb : Int) != (nb : Int)) = false := by simp
            clear hJ hdead hbs hlen hbb hdd
            refine start_ (n := 23) (S := fun w' => w'.cell? ⟨g, 3, none⟩ = some (.bool dd) ∧ w'.cell? ⟨g, 0, none⟩ = some u1) (ds := []) #[false, false, false, false, false, false, false, false, false, false, false, false, false, false, false, false, false, false, false, false, false, false, false] (by kernel_rfl) rfl rfl ⟨e3, e0⟩ (fun hHeld => ?_)
            refine pure_ (i := 0) (N := some 110) (v := ?_) (a' := ?_) #[true, false, false, false, false, false, false, false, false, false, false, false, false, false, false, false, false, false, false, false, false, false, false] rfl rfl (by kernel_rfl) (fun _ _ _ h => h) (Or.inl ⟨by rfl, ?_⟩) ?_ ?_
            rotate_left
            · intro w'
              go_simp
              with_reducible rfl
            rotate_left
            · simp only [Act.put, List.setIfInBounds_toArray, List.set_cons_zero, List.set_cons_succ, i64_w, i32_w]
              rfl
            refine pure_ (i := 2) (N := some 112) (v := ?_) (a' := ?_) #[true, false, true, false, false, false, false, false, false, false, false, false, false, false, false, false, false, false, false, false, false, false, false] rfl rfl (by kernel_rfl) (fun _ _ _ h => h) (Or.inl ⟨by rfl, ?_⟩) ?_ ?_
            rotate_left
            · intro w'
              go_simp
              with_reducible rfl
            rotate_left
            · simp only [Act.put, List.setIfInBounds_toArray, List.set_cons_zero, List.set_cons_succ, i64_w, i32_w]
              rfl
            refine pure_ (i := 3) (N := some 113) (v := ?_) (a' := ?_) #[true, false, true, true, false, false, false, false, false, false, false, false, false, false, false, false, false, false, false, false, false, false, false] rfl rfl (by kernel_rfl) (fun _ _ _ h => h) (Or.inl ⟨by rfl, ?_⟩) ?_ ?_
            rotate_left
            · intro w'
              go_simp
              with_reducible rfl
            rotate_left
            · simp only [Act.put, List.setIfInBounds_toArray, List.set_cons_zero, List.set_cons_succ, i64_w, i32_w]
              rfl
            refine pure_ (i := 4) (N := some 114) (v := ?_) (a' := ?_) #[true, false, true, true, true, false, false, false, false, false, false, false, false, false, false, false, false, false, false, false, false, false, false] rfl rfl (by kernel_rfl) (fun _ _ _ h => h) (Or.inl ⟨by rfl, ?_⟩) ?_ ?_
            rotate_left
            · intro w'
              go_simp
              with_reducible rfl
            rotate_left
            · simp only [Act.put, List.setIfInBounds_toArray, List.set_cons_zero, List.set_cons_succ, i64_w, i32_w]
              rfl
            refine take_ (i := 5) (N := some 115) (v := ?_) (a' := ?_) #[true, false, true, true, true, true, false, false, false, false, false, false, false, false, false, false, false, false, false, false, false, false, false] rfl rfl (by kernel_rfl) (fun _ _ _ h => h) (Or.inl ⟨by rfl, ?_⟩) hHeld ?_ ?_
            rotate_left
            · rintro w' ⟨s0, s1⟩
              go_simp
              with_reducible rfl
            rotate_left
            · simp only [Act.put, List.setIfInBounds_toArray, List.set_cons_zero, List.set_cons_succ, i64_w, i32_w]
              rfl
            refine one_ (i := 1) (N := some 111) #[true, true, true, true, true, true, false, false, false, false, false, false, false, false, false, false, false, false, false, false, false, false, false] rfl rfl (by kernel_rfl) (by decide) (fun K hK => ?_)
            refine goes_ Try.func34 (by kernel_rfl) rfl #[.pointer (some ⟨d, 0, none⟩)] (by rfl) rfl rfl (by simp only [List.map_toArray, List.map_cons, List.map_nil]; rfl) ?_
            with_reducible refine (hDead).mono ?_
            rintro e wa ⟨rfl, hwa⟩
            subst hwa
            refine ⟨_, rfl, ?_⟩
            refine hK.out _ _ ⟨e3, e0⟩ (fun hHeld => ?_)
            clear hK K
            refine norm_ (a' := ?_) ?_ ?_
            rotate_left
            · show Act.put _ (some 111) _ = _
              simp only [Act.put, List.setIfInBounds_toArray, List.set_cons_zero, List.set_cons_succ, i64_w, i32_w]
              rfl
            refine pure_ (i := 6) (N := some 116) (v := ?_) (a' := ?_) #[true, true, true, true, true, true, true, false, false, false, false, false, false, false, false, false, false, false, false, false, false, false, false] rfl rfl (by kernel_rfl) (fun _ _ _ h => h) (Or.inl ⟨by rfl, ?_⟩) ?_ ?_
            rotate_left
            · intro w'
              go_simp
              with_reducible rfl
            rotate_left
            · simp only [Act.put, List.setIfInBounds_toArray, List.set_cons_zero, List.set_cons_succ, i64_w, i32_w]
              rfl
            refine pure_ (i := 7) (N := some 117) (v := ?_) (a' := ?_) #[true, true, true, true, true, true, true, true, false, false, false, false, false, false, false, false, false, false, false, false, false, false, false] rfl rfl (by kernel_rfl) (fun _ _ _ h => h) (Or.inl ⟨by rfl, ?_⟩) ?_ ?_
            rotate_left
            · intro w'
              go_simp
              with_reducible rfl
            rotate_left
            · simp only [Act.put, List.setIfInBounds_toArray, List.set_cons_zero, List.set_cons_succ, i64_w, i32_w]
              rfl
            refine pure_ (i := 8) (N := some 118) (v := ?_) (a' := ?_) #[true, true, true, true, true, true, true, true, true, false, false, false, false, false, false, false, false, false, false, false, false, false, false] rfl rfl (by kernel_rfl) (fun _ _ _ h => h) (Or.inl ⟨by rfl, ?_⟩) ?_ ?_
            rotate_left
            · intro w'
              go_simp
              with_reducible rfl
            rotate_left
            · simp only [Act.put, List.setIfInBounds_toArray, List.set_cons_zero, List.set_cons_succ, i64_w, i32_w]
              rfl
            refine pure_ (i := 10) (N := some 120) (v := ?_) (a' := ?_) #[true, true, true, true, true, true, true, true, true, false, true, false, false, false, false, false, false, false, false, false, false, false, false] rfl rfl (by kernel_rfl) (fun _ _ _ h => h) (Or.inl ⟨by rfl, ?_⟩) ?_ ?_
            rotate_left
            · intro w'
              go_simp
              with_reducible rfl
            rotate_left
            · simp only [Act.put, List.setIfInBounds_toArray, List.set_cons_zero, List.set_cons_succ, i64_w, i32_w]
              rfl
            refine one_ (i := 9) (N := some 119) #[true, true, true, true, true, true, true, true, true, true, true, false, false, false, false, false, false, false, false, false, false, false, false] rfl rfl (by kernel_rfl) (by decide) (fun K hK => ?_)
            refine goes_ Try.func33 (by kernel_rfl) rfl #[.pointer (some ⟨d, 0, none⟩)] (by rfl) rfl rfl (by simp only [List.map_toArray, List.map_cons, List.map_nil]; rfl) ?_
            with_reducible refine (hLen).mono ?_
            rintro e wb ⟨rfl, hwb⟩
            subst hwb
            refine ⟨_, rfl, ?_⟩
            refine hK.out _ _ ⟨e3, e0⟩ (fun hHeld => ?_)
            clear hK K
            refine norm_ (a' := ?_) ?_ ?_
            rotate_left
            · show Act.put _ (some 119) _ = _
              simp only [Act.put, List.setIfInBounds_toArray, List.set_cons_zero, List.set_cons_succ, i64_w, i32_w]
              rfl
            refine pure_ (i := 11) (N := some 121) (v := ?_) (a' := ?_) #[true, true, true, true, true, true, true, true, true, true, true, true, false, false, false, false, false, false, false, false, false, false, false] rfl rfl (by kernel_rfl) (fun _ _ _ h => h) (Or.inl ⟨by rfl, ?_⟩) ?_ ?_
            rotate_left
            · intro w'
              go_simp
              with_reducible rfl
            rotate_left
            · simp only [Act.put, List.setIfInBounds_toArray, List.set_cons_zero, List.set_cons_succ, i64_w, i32_w]
              rfl
            refine pure_ (i := 12) (N := some 122) (v := ?_) (a' := ?_) #[true, true, true, true, true, true, true, true, true, true, true, true, true, false, false, false, false, false, false, false, false, false, false] rfl rfl (by kernel_rfl) (fun _ _ _ h => h) (Or.inl ⟨by rfl, ?_⟩) ?_ ?_
            rotate_left
            · intro w'
              go_simp
              with_reducible rfl
            rotate_left
            · simp only [Act.put, List.setIfInBounds_toArray, List.set_cons_zero, List.set_cons_succ, i64_w, i32_w]
              rfl
            refine pure_ (i := 13) (N := some 123) (v := ?_) (a' := ?_) #[true, true, true, true, true, true, true, true, true, true, true, true, true, true, false, false, false, false, false, false, false, false, false] rfl rfl (by kernel_rfl) (fun _ _ _ h => h) (Or.inl ⟨by rfl, ?_⟩) ?_ ?_
            rotate_left
            · intro w'
              go_simp
              with_reducible rfl
            rotate_left
            · simp only [Act.put, List.setIfInBounds_toArray, List.set_cons_zero, List.set_cons_succ, i64_w, i32_w]
              rfl
            refine pure_ (i := 14) (N := some 124) (v := ?_) (a' := ?_) #[true, true, true, true, true, true, true, true, true, true, true, true, true, true, true, false, false, false, false, false, false, false, false] rfl rfl (by kernel_rfl) (fun _ _ _ h => h) (Or.inl ⟨by rfl, ?_⟩) ?_ ?_
            rotate_left
            · intro w'
              go_simp
              with_reducible rfl
            rotate_left
            · simp only [Act.put, List.setIfInBounds_toArray, List.set_cons_zero, List.set_cons_succ, i64_w, i32_w]
              rfl
            refine pure_ (i := 16) (N := some 126) (v := ?_) (a' := ?_) #[true, true, true, true, true, true, true, true, true, true, true, true, true, true, true, false, true, false, false, false, false, false, false] rfl rfl (by kernel_rfl) (fun _ _ _ h => h) (Or.inl ⟨by rfl, ?_⟩) ?_ ?_
            rotate_left
            · intro w'
              go_simp
              with_reducible rfl
            rotate_left
            · simp only [Act.put, List.setIfInBounds_toArray, List.set_cons_zero, List.set_cons_succ, i64_w, i32_w]
              rfl
            refine pure_ (i := 17) (N := some 127) (v := ?_) (a' := ?_) #[true, true, true, true, true, true, true, true, true, true, true, true, true, true, true, false, true, true, false, false, false, false, false] rfl rfl (by kernel_rfl) (fun _ _ _ h => h) (Or.inl ⟨by rfl, ?_⟩) ?_ ?_
            rotate_left
            · intro w'
              go_simp
              with_reducible rfl
            rotate_left
            · simp only [Act.put, List.setIfInBounds_toArray, List.set_cons_zero, List.set_cons_succ, i64_w, i32_w]
              rfl
            refine pure_ (i := 18) (N := some 128) (v := ?_) (a' := ?_) #[true, true, true, true, true, true, true, true, true, true, true, true, true, true, true, false, true, true, true, false, false, false, false] rfl rfl (by kernel_rfl) (fun _ _ _ h => h) (Or.inl ⟨by rfl, ?_⟩) ?_ ?_
            rotate_left
            · intro w'
              go_simp
              with_reducible rfl
            rotate_left
            · simp only [Act.put, List.setIfInBounds_toArray, List.set_cons_zero, List.set_cons_succ, i64_w, i32_w]
              rfl
            refine take_ (i := 19) (N := some 129) (v := ?_) (a' := ?_) #[true, true, true, true, true, true, true, true, true, true, true, true, true, true, true, false, true, true, true, true, false, false, false] rfl rfl (by kernel_rfl) (fun _ _ _ h => h) (Or.inl ⟨by rfl, ?_⟩) hHeld ?_ ?_
            rotate_left
            · rintro w' ⟨s0, s1⟩
              go_simp
              with_reducible rfl
            rotate_left
            · simp only [Act.put, List.setIfInBounds_toArray, List.set_cons_zero, List.set_cons_succ, i64_w, i32_w]
              rfl
            refine one_ (i := 15) (N := some 125) #[true, true, true, true, true, true, true, true, true, true, true, true, true, true, true, true, true, true, true, true, false, false, false] rfl rfl (by kernel_rfl) (by decide) (fun K hK => ?_)
            refine goes_ Try.func28 (by kernel_rfl) rfl #[.pointer (some ⟨d, 0, none⟩)] (by rfl) rfl rfl (by simp only [List.map_toArray, List.map_cons, List.map_nil]; rfl) ?_
            with_reducible refine (hAll).mono ?_
            rintro e wc ⟨vw, rfl, hOc, hbc⟩
            have HOC := hidI hOc
            have HBC := hidI hbc
            have x3 := pw_cell_below hbc e3
            have x0 := pw_cell_below hbc e0
            clear hOc hbc
            refine ⟨_, rfl, ?_⟩
            refine hK.out _ _ ⟨x3, x0⟩ (fun hHeld => ?_)
            clear hK K
            refine norm_ (a' := ?_) ?_ ?_
            rotate_left
            · show Act.put _ (some 125) _ = _
              simp only [Act.put, List.setIfInBounds_toArray, List.set_cons_zero, List.set_cons_succ, i64_w, i32_w]
              rfl
            refine one_ (i := 20) (N := some 130) #[true, true, true, true, true, true, true, true, true, true, true, true, true, true, true, true, true, true, true, true, true, false, false] rfl rfl (by kernel_rfl) (by decide) (fun K hK => ?_)
            refine goes_ Try.func21 (by kernel_rfl) rfl #[vw, u1] (by rfl) rfl rfl (by simp only [List.map_toArray, List.map_cons, List.map_nil]; rfl) ?_
            with_reducible refine (equal_same _ _ vw u1 bb wc HOC.out (HJE.out.own.below HBC.out) HBL.out).mono ?_
            rintro e wd ⟨rfl, mq, hwd⟩
            subst hwd
            have m3 := pw_cell_below (below_drewN (Below.refl wc.heap.size wc) mq) x3
            have m0 := pw_cell_below (below_drewN (Below.refl wc.heap.size wc) mq) x0
            refine ⟨_, rfl, ?_⟩
            refine hK.out _ _ ⟨m3, m0⟩ (fun hHeld => ?_)
            clear hK K
            refine norm_ (a' := ?_) ?_ ?_
            rotate_left
            · show Act.put _ (some 130) _ = _
              simp only [Act.put, List.setIfInBounds_toArray, List.set_cons_zero, List.set_cons_succ, i64_w, i32_w]
              rfl
            refine pure_ (i := 21) (N := some 131) (v := ?_) (a' := ?_) #[true, true, true, true, true, true, true, true, true, true, true, true, true, true, true, true, true, true, true, true, true, true, false] rfl rfl (by kernel_rfl) (fun _ _ _ h => h) (Or.inl ⟨by rfl, ?_⟩) ?_ ?_
            rotate_left
            · intro w'
              go_simp
              with_reducible rfl
            rotate_left
            · simp only [Act.put, List.setIfInBounds_toArray, List.set_cons_zero, List.set_cons_succ, i64_w, i32_w]
              rfl
            refine pure_ (i := 22) (N := some 132) (v := ?_) (a' := ?_) #[true, true, true, true, true, true, true, true, true, true, true, true, true, true, true, true, true, true, true, true, true, true, true] rfl rfl (by kernel_rfl) (fun _ _ _ h => h) (Or.inl ⟨by rfl, ?_⟩) ?_ ?_
            rotate_left
            · intro w'
              go_simp
              with_reducible rfl
            rotate_left
            · simp only [Act.put, List.setIfInBounds_toArray, List.set_cons_zero, List.set_cons_succ, i64_w, i32_w]
              rfl
            refine done_ (by kernel_rfl) ?_
            clear hHeld
            have HF : Hid (AJ w (wc.drewN mq) d g v1 v3 u1 u3 s3 t3 ∧ Sim s3 t3 ∧ Good nb (k + 1) s3 ∧ Good nb (k + 1) t3) := hidI ⟨(HN.out.1.drew.below HBC.out).drewN mq, HN.out.2⟩
            go_wp2_with fail
            go_roundw
            · exact ⟨k + 1, by omega, by simp, v3, u3, s3, t3, HF⟩
            · simp [intOf]; omega
        · as_aux_lemma =>
            have g0 : (f0 % 5 == 0) = false := by rw [hkd]; rfl
            have g1 : (f0 % 5 == 1) = false := by rw [hkd]; rfl
            have g2 : (f0 % 5 == 2) = true := by rw [hkd]; rfl
            have g3 : (f0 % 5 == 3) = false := by rw [hkd]; rfl
            clear hkd
            go_wp2_with fail
            have hB : Blk (wr.alloc (.cells #[.int .u8 f0, .int .i8 f1, .int .i8 f2, .string f3, .slice A4 f4.length c4] 62)) wr.heap.size #[.int .u8 f0, .int .i8 f1, .int .i8 f2, .string f3, .slice A4 f4.length c4] 62 := Blk.new' rfl
            have HJ : Hid (AJ w (wr.alloc (.cells #[.int .u8 f0, .int .i8 f1, .int .i8 f2, .string f3, .slice A4 f4.length c4] 62)) d g v1 v2 u1 u2 s t) := hidI (HI.out.1.below (below_new (Below.refl _ _) _))
            clear h0 h1 h2 h3 h4
            generalize wr.alloc (.cells #[.int .u8 f0, .int .i8 f1, .int .i8 f2, .string f3, .slice A4 f4.length c4] 62) = W at *
            generalize wr.heap.size = x at *
            have q1 : W.cell? ⟨x, 1, none⟩ = some (.int .i8 f1) := hB.c 1
            have q3 : W.cell? ⟨x, 3, none⟩ = some (.string f3) := hB.c 3
            have HB := hidI hB
            clear hB
            clear g0 g1 g2 g3
            obtain ⟨R, hR⟩ : ∃ R, R = rdF s f1 := ⟨_, rfl⟩
            have hW1 := read_all w.heap.size d v1 v2 s f1 W HJ.out.D (Nat.le_trans HI.out.2.2.1.few (by omega))
            have HW2 : Hid (∀ w5, ET w5 w.heap.size g u1 u2 t → Calls Try.prog 39 #[.pointer (some ⟨g, 0, none⟩), .int .i64 f1] w5 (RrP R w5)) := hidI (fun w5 hE => by
              have := rread_any w.heap.size g u1 u2 t f1 w5 hE (Nat.le_trans HI.out.2.2.2.few (by omega))
              rw [← rdF_sim HI.out.2.1 f1, ← hR] at this
              exact this)
            rw [← hR] at hW1
            have HS : Hid (Sim s t ∧ Good nb (k + 1) s ∧ Good nb (k + 1) t) := hidI ⟨HI.out.2.1, HI.out.2.2.1.more, HI.out.2.2.2.more⟩
            obtain ⟨R1, R2⟩ := R
            have hn1 : (R1.toList != R1.toList) = false := by simp
            have hn2 : (R2 != R2) = false := by simp
            clear hR
            with_reducible refine hW1.mono ?_
            rintro e w5 ⟨rfl, hb5⟩
            have HJ5 := hidI (HJ.out.below hb5)
            have hB5 := HB.out.be hb5
            have z1 : w5.cell? ⟨x, 1, none⟩ = some (.int .i8 f1) := hB5.c 1
            clear hb5 hW1 q1 q3 hB5
            simp only []
            go_wp2_with fail
            with_reducible refine (HW2.out _ HJ5.out.E).mono ?_
            rintro e w6 ⟨rfl, hw6⟩
            subst hw6
            obtain ⟨v3, hv3⟩ : ∃ v3, v3 = v2 := ⟨_, rfl⟩
            obtain ⟨u3, hu3⟩ : ∃ u3, u3 = u2 := ⟨_, rfl⟩
            obtain ⟨s3, hs3⟩ : ∃ s3, s3 = s := ⟨_, rfl⟩
            obtain ⟨t3, ht3⟩ : ∃ t3, t3 = t := ⟨_, rfl⟩
            have HN : Hid (AJ w w6 d g v1 v3 u1 u3 s3 t3 ∧ Sim s3 t3 ∧ Good nb (k + 1) s3 ∧ Good nb (k + 1) t3) := hidI (by rw [hv3, hu3, hs3, ht3]; exact ⟨HJ5.out, HS.out⟩)
            clear HJ5 HW2 HS z1 hv3 hu3 hs3 ht3
            generalize w6 = W5 at *
            simp only []
            go_wp2_with fail
            clear hn1 hn2
            have hJ := HN.out.1
            have hdead := HN.out.2.1.dead
            have hbs := HN.out.2.1.bs
            have hlen := HN.out.2.2.1.len
            have hDead := dead_any w.heap.size d v1 v3 s3 W5.drew hJ.drew.D
            have hLen := len_any w.heap.size d v1 v3 s3 W5.drew hJ.drew.D
            have hAll := all_any w.heap.size d v1 v3 s3 W5.drew hJ.drew.D (by omega)
            have HJE : Hid (ET W5.drew w.heap.size g u1 u3 t3) := hidI hJ.drew.E
            obtain ⟨bb, hbb⟩ : ∃ bb, bb = s3.bs := ⟨_, rfl⟩
            obtain ⟨dd, hdd⟩ : ∃ dd, dd = s3.dead := ⟨_, rfl⟩
            have HBL : Hid (bb.length ≤ 1000000) := hidI (by rw [hbb]; omega)
            have e3 : W5.cell? ⟨g, 3, none⟩ = some (.bool dd) := by rw [hdd, hdead]; exact hJ.E.blk.c 3
            have e0 : W5.cell? ⟨g, 0, none⟩ = some u1 := hJ.E.blk.c 0
            rw [← hdd] at hDead
            rw [hlen] at hLen
            rw [← hbb] at hAll
            have HJE2 : Hid (Et W5.drew w.heap.size g u1 u3 bb t3.ps t3.fuse t3.dead) := hidI (by rw [hbb, hbs]; exact HJE.out)
            clear HJE
            have HJE := HJE2
            clear HJE2
            have hn1 : (dd != dd) = false := by simp
            have hn2 : ((nb : Int) != (nb : Int)) = false := by simp
            clear hJ hdead hbs hlen hbb hdd
            refine start_ (n := 23) (S := fun w' => w'.cell? ⟨g, 3, none⟩ = some (.bool dd) ∧ w'.cell? ⟨g, 0, none⟩ = some u1) (ds := []) #[false, false, false, false, false, false, false, false, false, false, false, false, false, false, false, false, false, false, false, false, false, false, false] (by kernel_rfl) rfl rfl ⟨e3, e0⟩ (fun hHeld => ?_)
            refine pure_ (i := 0) (N := some 110) (v := ?_) (a' := ?_) #[true, false, false, false, false, false, false, false, false, false, false, false, false, false, false, false, false, false, false, false, false, false, false] rfl rfl (by kernel_rfl) (fun _ _ _ h => h) (Or.inl ⟨by rfl, ?_⟩) ?_ ?_
            rotate_left
            · intro w'
              go_simp
              with_reducible rfl
            rotate_left
            · simp only [Act.put, List.setIfInBounds_toArray, List.set_cons_zero, List.set_cons_succ, i64_w, i32_w]
              rfl
            refine pure_ (i := 2) (N := some 112) (v := ?_) (a' := ?_) #[true, false, true, false, false, false, false, false, false, false, false, false, false, false, false, false, false, false, false, false, false, false, false] rfl rfl (by kernel_rfl) (fun _ _ _ h => h) (Or.inl ⟨by rfl, ?_⟩) ?_ ?_
            rotate_left
            · intro w'
              go_simp
              with_reducible rfl
            rotate_left
            · simp only [Act.put, List.setIfInBounds_toArray, List.set_cons_zero, List.set_cons_succ, i64_w, i32_w]
              rfl
            refine pure_ (i := 3) (N := some 113) (v := ?_) (a' := ?_) #[true, false, true, true, false, false, false, false, false, false, false, false, false, false, false, false, false, false, false, false, false, false, false] rfl rfl (by kernel_rfl) (fun _ _ _ h => h) (Or.inl ⟨by rfl, ?_⟩) ?_ ?_
            rotate_left
            · intro w'
              go_simp
              with_reducible rfl
            rotate_left
            · simp only [Act.put, List.setIfInBounds_toArray, List.set_cons_zero, List.set_cons_succ, i64_w, i32_w]
              rfl
            refine pure_ (i := 4) (N := some 114) (v := ?_) (a' := ?_) #[true, false, true, true, true, false, false, false, false, false, false, false, false, false, false, false, false, false, false, false, false, false, false] rfl rfl (by kernel_rfl) (fun _ _ _ h => h) (Or.inl ⟨by rfl, ?_⟩) ?_ ?_
            rotate_left
            · intro w'
              go_simp
              with_reducible rfl
            rotate_left
            · simp only [Act.put, List.setIfInBounds_toArray, List.set_cons_zero, List.set_cons_succ, i64_w, i32_w]
              rfl
            refine take_ (i := 5) (N := some 115) (v := ?_) (a' := ?_) #[true, false, true, true, true, true, false, false, false, false, false, false, false, false, false, false, false, false, false, false, false, false, false] rfl rfl (by kernel_rfl) (fun _ _ _ h => h) (Or.inl ⟨by rfl, ?_⟩) hHeld ?_ ?_
            rotate_left
            · rintro w' ⟨s0, s1⟩
              go_simp
              with_reducible rfl
            rotate_left
            · simp only [Act.put, List.setIfInBounds_toArray, List.set_cons_zero, List.set_cons_succ, i64_w, i32_w]
              rfl
            refine one_ (i := 1) (N := some 111) #[true, true, true, true, true, true, false, false, false, false, false, false, false, false, false, false, false, false, false, false, false, false, false] rfl rfl (by kernel_rfl) (by decide) (fun K hK => ?_)
            refine goes_ Try.func34 (by kernel_rfl) rfl #[.pointer (some ⟨d, 0, none⟩)] (by rfl) rfl rfl (by simp only [List.map_toArray, List.map_cons, List.map_nil]; rfl) ?_
            with_reducible refine (hDead).mono ?_
            rintro e wa ⟨rfl, hwa⟩
            subst hwa
            refine ⟨_, rfl, ?_⟩
            refine hK.out _ _ ⟨e3, e0⟩ (fun hHeld => ?_)
            clear hK K
            refine norm_ (a' := ?_) ?_ ?_
            rotate_left
            · show Act.put _ (some 111) _ = _
              simp only [Act.put, List.setIfInBounds_toArray, List.set_cons_zero, List.set_cons_succ, i64_w, i32_w]
              rfl
            refine pure_ (i := 6) (N := some 116) (v := ?_) (a' := ?_) #[true, true, true, true, true, true, true, false, false, false, false, false, false, false, false, false, false, false, false, false, false, false, false] rfl rfl (by kernel_rfl) (fun _ _ _ h => h) (Or.inl ⟨by rfl, ?_⟩) ?_ ?_
            rotate_left
            · intro w'
              go_simp
              with_reducible rfl
            rotate_left
            · simp only [Act.put, List.setIfInBounds_toArray, List.set_cons_zero, List.set_cons_succ, i64_w, i32_w]
              rfl
            refine pure_ (i := 7) (N := some 117) (v := ?_) (a' := ?_) #[true, true, true, true, true, true, true, true, false, false, false, false, false, false, false, false, false, false, false, false, false, false, false] rfl rfl (by kernel_rfl) (fun _ _ _ h => h) (Or.inl ⟨by rfl, ?_⟩) ?_ ?_
            rotate_left
            · intro w'
              go_simp
              with_reducible rfl
            rotate_left
            · simp only [Act.put, List.setIfInBounds_toArray, List.set_cons_zero, List.set_cons_succ, i64_w, i32_w]
              rfl
            refine pure_ (i := 8) (N := some 118) (v := ?_) (a' := ?_) #[true, true, true, true, true, true, true, true, true, false, false, false, false, false, false, false, false, false, false, false, false, false, false] rfl rfl (by kernel_rfl) (fun _ _ _ h => h) (Or.inl ⟨by rfl, ?_⟩) ?_ ?_
            rotate_left
            · intro w'
              go_simp
              with_reducible rfl
            rotate_left
            · simp only [Act.put, List.setIfInBounds_toArray, List.set_cons_zero, List.set_cons_succ, i64_w, i32_w]
              rfl
            refine pure_ (i := 10) (N := some 120) (v := ?_) (a' := ?_) #[true, true, true, true, true, true, true, true, true, false, true, false, false, false, false, false, false, false, false, false, false, false, false] rfl rfl (by kernel_rfl) (fun _ _ _ h => h) (Or.inl ⟨by rfl, ?_⟩) ?_ ?_
            rotate_left
            · intro w'
              go_simp
              with_reducible rfl
            rotate_left
            · simp only [Act.put, List.setIfInBounds_toArray, List.set_cons_zero, List.set_cons_succ, i64_w, i32_w]
              rfl
            refine one_ (i := 9) (N := some 119) #[true, true, true, true, true, true, true, true, true, true, true, false, false, false, false, false, false, false, false, false, false, false, false] rfl rfl (by kernel_rfl) (by decide) (fun K hK => ?_)
            refine goes_ Try.func33 (by kernel_rfl) rfl #[.pointer (some ⟨d, 0, none⟩)] (by rfl) rfl rfl (by simp only [List.map_toArray, List.map_cons, List.map_nil]; rfl) ?_
            with_reducible refine (hLen).mono ?_
            rintro e wb ⟨rfl, hwb⟩
            subst hwb
            refine ⟨_, rfl, ?_⟩
            refine hK.out _ _ ⟨e3, e0⟩ (fun hHeld => ?_)
            clear hK K
            refine norm_ (a' := ?_) ?_ ?_
            rotate_left
            · show Act.put _ (some 119) _ = _
              simp only [Act.put, List.setIfInBounds_toArray, List.set_cons_zero, List.set_cons_succ, i64_w, i32_w]
              rfl
            refine pure_ (i := 11) (N := some 121) (v := ?_) (a' := ?_) #[true, true, true, true, true, true, true, true, true, true, true, true, false, false, false, false, false, false, false, false, false, false, false] rfl rfl (by kernel_rfl) (fun _ _ _ h => h) (Or.inl ⟨by rfl, ?_⟩) ?_ ?_
            rotate_left
            · intro w'
              go_simp
              with_reducible rfl
            rotate_left
            · simp only [Act.put, List.setIfInBounds_toArray, List.set_cons_zero, List.set_cons_succ, i64_w, i32_w]
              rfl
            refine pure_ (i := 12) (N := some 122) (v := ?_) (a' := ?_) #[true, true, true, true, true, true, true, true, true, true, true, true, true, false, false, false, false, false, false, false, false, false, false] rfl rfl (by kernel_rfl) (fun _ _ _ h => h) (Or.inl ⟨by rfl, ?_⟩) ?_ ?_
            rotate_left
            · intro w'
              go_simp
              with_reducible rfl
            rotate_left
            · simp only [Act.put, List.setIfInBounds_toArray, List.set_cons_zero, List.set_cons_succ, i64_w, i32_w]
              rfl
            refine pure_ (i := 13) (N := some 123) (v := ?_) (a' := ?_) #[true, true, true, true, true, true, true, true, true, true, true, true, true, true, false, false, false, false, false, false, false, false, false] rfl rfl (by kernel_rfl) (fun _ _ _ h => h) (Or.inl ⟨by rfl, ?_⟩) ?_ ?_
            rotate_left
            · intro w'
              go_simp
              with_reducible rfl
            rotate_left
            · simp only [Act.put, List.setIfInBounds_toArray, List.set_cons_zero, List.set_cons_succ, i64_w, i32_w]
              rfl
            refine pure_ (i := 14) (N := some 124) (v := ?_) (a' := ?_) #[true, true, true, true, true, true, true, true, true, true, true, true, true, true, true, false, false, false, false, false, false, false, false] rfl rfl (by kernel_rfl) (fun _ _ _ h => h) (Or.inl ⟨by rfl, ?_⟩) ?_ ?_
            rotate_left
            · intro w'
              go_simp
              with_reducible rfl
            rotate_left
            · simp only [Act.put, List.setIfInBounds_toArray, List.set_cons_zero, List.set_cons_succ, i64_w, i32_w]
              rfl
            refine pure_ (i := 16) (N := some 126) (v := ?_) (a' := ?_) #[true, true, true, true, true, true, true, true, true, true, true, true, true, true, true, false, true, false, false, false, false, false, false] rfl rfl (by kernel_rfl) (fun _ _ _ h => h) (Or.inl ⟨by rfl, ?_⟩) ?_ ?_
            rotate_left
            · intro w'
              go_simp
              with_reducible rfl
            rotate_left
            · simp only [Act.put, List.setIfInBounds_toArray, List.set_cons_zero, List.set_cons_succ, i64_w, i32_w]
              rfl
            refine pure_ (i := 17) (N := some 127) (v := ?_) (a' := ?_) #[true, true, true, true, true, true, true, true, true, true, true, true, true, true, true, false, true, true, false, false, false, false, false] rfl rfl (by kernel_rfl) (fun _ _ _ h => h) (Or.inl ⟨by rfl, ?_⟩) ?_ ?_
            rotate_left
            · intro w'
              go_simp
              with_reducible rfl
            rotate_left
            · simp only [Act.put, List.setIfInBounds_toArray, List.set_cons_zero, List.set_cons_succ, i64_w, i32_w]
              rfl
            refine pure_ (i := 18) (N := some 128) (v := ?_) (a' := ?_) #[true, true, true, true, true, true, true, true, true, true, true, true, true, true, true, false, true, true, true, false, false, false, false] rfl rfl (by kernel_rfl) (fun _ _ _ h => h) (Or.inl ⟨by rfl, ?_⟩) ?_ ?_
            rotate_left
            · intro w'
              go_simp
              with_reducible rfl
            rotate_left
            · simp only [Act.put, List.setIfInBounds_toArray, List.set_cons_zero, List.set_cons_succ, i64_w, i32_w]
              rfl
            refine take_ (i := 19) (N := some 129) (v := ?_) (a' := ?_) #[true, true, true, true, true, true, true, true, true, true, true, true, true, true, true, false, true, true, true, true, false, false, false] rfl rfl (by kernel_rfl) (fun _ _ _ h => h) (Or.inl ⟨by rfl, ?_⟩) hHeld ?_ ?_
            rotate_left
            · rintro w' ⟨s0, s1⟩
              go_simp
              with_reducible rfl
            rotate_left
            · simp only [Act.put, List.setIfInBounds_toArray, List.set_cons_zero, List.set_cons_succ, i64_w, i32_w]
              rfl
            refine one_ (i := 15) (N := some 125) #[true, true, true, true, true, true, true, true, true, true, true, true, true, true, true, true, true, true, true, true, false, false, false] rfl rfl (by kernel_rfl) (by decide) (fun K hK => ?_)
            refine goes_ Try.func28 (by kernel_rfl) rfl #[.pointer (some ⟨d, 0, none⟩)] (by rfl) rfl rfl (by simp only [List.map_toArray, List.map_cons, List.map_nil]; rfl) ?_
            with_reducible refine (hAll).mono ?_
            rintro e wc ⟨vw, rfl, hOc, hbc⟩
            have HOC := hidI hOc
            have HBC := hidI hbc
            have x3 := pw_cell_below hbc e3
            have x0 := pw_cell_below hbc e0
            clear hOc hbc
            refine ⟨_, rfl, ?_⟩
            refine hK.out _ _ ⟨x3, x0⟩ (fun hHeld => ?_)
            clear hK K
            refine norm_ (a' := ?_) ?_ ?_
            rotate_left
            · show Act.put _ (some 125) _ = _
              simp only [Act.put, List.setIfInBounds_toArray, List.set_cons_zero, List.set_cons_succ, i64_w, i32_w]
              rfl
            refine one_ (i := 20) (N := some 130) #[true, true, true, true, true, true, true, true, true, true, true, true, true, true, true, true, true, true, true, true, true, false, false] rfl rfl (by kernel_rfl) (by decide) (fun K hK => ?_)
            refine goes_ Try.func21 (by kernel_rfl) rfl #[vw, u1] (by rfl) rfl rfl (by simp only [List.map_toArray, List.map_cons, List.map_nil]; rfl) ?_
            with_reducible refine (equal_same _ _ vw u1 bb wc HOC.out (HJE.out.own.below HBC.out) HBL.out).mono ?_
            rintro e wd ⟨rfl, mq, hwd⟩
            subst hwd
            have m3 := pw_cell_below (below_drewN (Below.refl wc.heap.size wc) mq) x3
            have m0 := pw_cell_below (below_drewN (Below.refl wc.heap.size wc) mq) x0
            refine ⟨_, rfl, ?_⟩
            refine hK.out _ _ ⟨m3, m0⟩ (fun hHeld => ?_)
            clear hK K
            refine norm_ (a' := ?_) ?_ ?_
            rotate_left
            · show Act.put _ (some 130) _ = _
              simp only [Act.put, List.setIfInBounds_toArray, List.set_cons_zero, List.set_cons_succ, i64_w, i32_w]
              rfl
            refine pure_ (i := 21) (N := some 131) (v := ?_) (a' := ?_) #[true, true, true, true, true, true, true, true, true, true, true, true, true, true, true, true, true, true, true, true, true, true, false] rfl rfl (by kernel_rfl) (fun _ _ _ h => h) (Or.inl ⟨by rfl, ?_⟩) ?_ ?_
            rotate_left
            · intro w'
              go_simp
              with_reducible rfl
            rotate_left
            · simp only [Act.put, List.setIfInBounds_toArray, List.set_cons_zero, List.set_cons_succ, i64_w, i32_w]
              rfl
            refine pure_ (i := 22) (N := some 132) (v := ?_) (a' := ?_) #[true, true, true, true, true, true, true, true, true, true, true, true, true, true, true, true, true, true, true, true, true, true, true] rfl rfl (by kernel_rfl) (fun _ _ _ h => h) (Or.inl ⟨by rfl, ?_⟩) ?_ ?_
            rotate_left
            · intro w'
              go_simp
              with_reducible rfl
            rotate_left
            · simp only [Act.put, List.setIfInBounds_toArray, List.set_cons_zero, List.set_cons_succ, i64_w, i32_w]
              rfl
            refine done_ (by kernel_rfl) ?_
            clear hHeld
            have HF : Hid (AJ w (wc.drewN mq) d g v1 v3 u1 u3 s3 t3 ∧ Sim s3 t3 ∧ Good nb (k + 1) s3 ∧ Good nb (k + 1) t3) := hidI ⟨(HN.out.1.drew.below HBC.out).drewN mq, HN.out.2⟩
            go_wp2_with fail
            go_roundw
            · exact ⟨k + 1, by omega, by simp, v3, u3, s3, t3, HF⟩
            · simp [intOf]; omega
        · as_aux_lemma =>
            have g0 : (f0 % 5 == 0) = false := by rw [hkd]; rfl
            have g1 : (f0 % 5 == 1) = false := by rw [hkd]; rfl
            have g2 : (f0 % 5 == 2) = false := by rw [hkd]; rfl
            have g3 : (f0 % 5 == 3) = true := by rw [hkd]; rfl
            clear hkd
            go_wp2_with fail
            have hB : Blk (wr.alloc (.cells #[.int .u8 f0, .int .i8 f1, .int .i8 f2, .string f3, .slice A4 f4.length c4] 62)) wr.heap.size #[.int .u8 f0, .int .i8 f1, .int .i8 f2, .string f3, .slice A4 f4.length c4] 62 := Blk.new' rfl
            have HJ : Hid (AJ w (wr.alloc (.cells #[.int .u8 f0, .int .i8 f1, .int .i8 f2, .string f3, .slice A4 f4.length c4] 62)) d g v1 v2 u1 u2 s t) := hidI (HI.out.1.below (below_new (Below.refl _ _) _))
            clear h0 h1 h2 h3 h4
            generalize wr.alloc (.cells #[.int .u8 f0, .int .i8 f1, .int .i8 f2, .string f3, .slice A4 f4.length c4] 62) = W at *
            generalize wr.heap.size = x at *
            have q1 : W.cell? ⟨x, 1, none⟩ = some (.int .i8 f1) := hB.c 1
            have q3 : W.cell? ⟨x, 3, none⟩ = some (.string f3) := hB.c 3
            have HB := hidI hB
            clear hB
            clear g0 g1 g2 g3
            have hsim := fail_sim HI.out.2.1 f2
            have hW1 := fail_any w.heap.size d v1 v2 s f2 W HJ.out.D
            obtain ⟨s3, hs3⟩ : ∃ z : DkS, z = ⟨s.bs, s.ps, f2, s.dead⟩ := ⟨_, rfl⟩
            obtain ⟨t3, ht3⟩ : ∃ z : DkS, z = ⟨t.bs, t.ps, max f2 (-1), t.dead⟩ := ⟨_, rfl⟩
            have HS : Hid (Sim s3 t3 ∧ Good nb (k + 1) s3 ∧ Good nb (k + 1) t3) := hidI (by
              rw [hs3, ht3]; exact ⟨hsim, HI.out.2.2.1.more.fail f2 (by omega), HI.out.2.2.2.more.fail _ (by omega)⟩)
            rw [← hs3] at hW1
            have HT := hidI ht3
            clear hs3 ht3 hsim
            with_reducible refine hW1.mono ?_
            intro e w5 hM
            obtain ⟨rfl, v3, hJ5, hX5⟩ := HJ.out.mu hM
            have hB5 := hX5 x _ HB.out
            have z2 : w5.cell? ⟨x, 2, none⟩ = some (.int .i8 f2) := hB5.c 2
            have c2 : w5.cell? ⟨g, 2, none⟩ = some (.int .i64 t.fuse) := hJ5.E.blk.c 2
            have l2 := hJ5.E.blk.lt
            have fr2 := hJ5.E.blk.f
            have hJ6 := hJ5.setg (max f2 (-1))
            rw [← HT.out] at hJ6
            have HN : Hid (AJ w (w5.setCell ⟨g, 2, none⟩ (.int .i64 (max f2 (-1)))) d g v1 v3 u1 u2 s3 t3 ∧ Sim s3 t3 ∧ Good nb (k + 1) s3 ∧ Good nb (k + 1) t3) := hidI ⟨hJ6, HS.out⟩
            clear hM hJ5 hJ6 hX5 hB5 hW1 q1 q3 HS HT
            simp only []
            go_wp2_with fail
            clear c2 l2 fr2 z2
            generalize w5.setCell ⟨g, 2, none⟩ (.int .i64 (max f2 (-1))) = W5 at *
            obtain ⟨u3, hu3⟩ : ∃ u3, u3 = u2 := ⟨_, rfl⟩
            rw [← hu3] at HN
            clear hu3
            have hJ := HN.out.1
            have hdead := HN.out.2.1.dead
            have hbs := HN.out.2.1.bs
            have hlen := HN.out.2.2.1.len
            have hDead := dead_any w.heap.size d v1 v3 s3 W5.drew hJ.drew.D
            have hLen := len_any w.heap.size d v1 v3 s3 W5.drew hJ.drew.D
            have hAll := all_any w.heap.size d v1 v3 s3 W5.drew hJ.drew.D (by omega)
            have HJE : Hid (ET W5.drew w.heap.size g u1 u3 t3) := hidI hJ.drew.E
            obtain ⟨bb, hbb⟩ : ∃ bb, bb = s3.bs := ⟨_, rfl⟩
            obtain ⟨dd, hdd⟩ : ∃ dd, dd = s3.dead := ⟨_, rfl⟩
            have HBL : Hid (bb.length ≤ 1000000) := hidI (by rw [hbb]; omega)
            have e3 : W5.cell? ⟨g, 3, none⟩ = some (.bool dd) := by rw [hdd, hdead]; exact hJ.E.blk.c 3
            have e0 : W5.cell? ⟨g, 0, none⟩ = some u1 := hJ.E.blk.c 0
            rw [← hdd] at hDead
            rw [hlen] at hLen
            rw [← hbb] at hAll
            have HJE2 : Hid (Et W5.drew w.heap.size g u1 u3 bb t3.ps t3.fuse t3.dead) := hidI (by rw [hbb, hbs]; exact HJE.out)
            clear HJE
            have HJE := HJE2
            clear HJE2
            have hn1 : (dd != dd) = false := by simp
            have hn2 : ((nb : Int) != (nb : Int)) = false := by simp
            clear hJ hdead hbs hlen hbb hdd
            refine start_ (n := 23) (S := fun w' => w'.cell? ⟨g, 3, none⟩ = some (.bool dd) ∧ w'.cell? ⟨g, 0, none⟩ = some u1) (ds := []) #[false, false, false, false, false, false, false, false, false, false, false, false, false, false, false, false, false, false, false, false, false, false, false] (by kernel_rfl) rfl rfl ⟨e3, e0⟩ (fun hHeld => ?_)
            refine pure_ (i := 0) (N := some 110) (v := ?_) (a' := ?_) #[true, false, false, false, false, false, false, false, false, false, false, false, false, false, false, false, false, false, false, false, false, false, false] rfl rfl (by kernel_rfl) (fun _ _ _ h => h) (Or.inl ⟨by rfl, ?_⟩) ?_ ?_
            rotate_left
            · intro w'
              go_simp
              with_reducible rfl
            rotate_left
            · simp only [Act.put, List.setIfInBounds_toArray, List.set_cons_zero, List.set_cons_succ, i64_w, i32_w]
              rfl
            refine pure_ (i := 2) (N := some 112) (v := ?_) (a' := ?_) #[true, false, true, false, false, false, false, false, false, false, false, false, false, false, false, false, false, false, false, false, false, false, false] rfl rfl (by kernel_rfl) (fun _ _ _ h => h) (Or.inl ⟨by rfl, ?_⟩) ?_ ?_
            rotate_left
            · intro w'
              go_simp
              with_reducible rfl
            rotate_left
            · simp only [Act.put, List.setIfInBounds_toArray, List.set_cons_zero, List.set_cons_succ, i64_w, i32_w]
              rfl
            refine pure_ (i := 3) (N := some 113) (v := ?_) (a' := ?_) #[true, false, true, true, false, false, false, false, false, false, false, false, false, false, false, false, false, false, false, false, false, false, false] rfl rfl (by kernel_rfl) (fun _ _ _ h => h) (Or.inl ⟨by rfl, ?_⟩) ?_ ?_
            rotate_left
            · intro w'
              go_simp
              with_reducible rfl
            rotate_left
            · simp only [Act.put, List.setIfInBounds_toArray, List.set_cons_zero, List.set_cons_succ, i64_w, i32_w]
              rfl
            refine pure_ (i := 4) (N := some 114) (v := ?_) (a' := ?_) #[true, false, true, true, true, false, false, false, false, false, false, false, false, false, false, false, false, false, false, false, false, false, false] rfl rfl (by kernel_rfl) (fun _ _ _ h => h) (Or.inl ⟨by rfl, ?_⟩) ?_ ?_
            rotate_left
            · intro w'
              go_simp
              with_reducible rfl
            rotate_left
            · simp only [Act.put, List.setIfInBounds_toArray, List.set_cons_zero, List.set_cons_succ, i64_w, i32_w]
              rfl
            refine take_ (i := 5) (N := some 115) (v := ?_) (a' := ?_) #[true, false, true, true, true, true, false, false, false, false, false, false, false, false, false, false, false, false, false, false, false, false, false] rfl rfl (by kernel_rfl) (fun _ _ _ h => h) (Or.inl ⟨by rfl, ?_⟩) hHeld ?_ ?_
            rotate_left
            · rintro w' ⟨s0, s1⟩
              go_simp
              with_reducible rfl
            rotate_left
            · simp only [Act.put, List.setIfInBounds_toArray, List.set_cons_zero, List.set_cons_succ, i64_w, i32_w]
              rfl
            refine one_ (i := 1) (N := some 111) #[true, true, true, true, true, true, false, false, false, false, false, false, false, false, false, false, false, false, false, false, false, false, false] rfl rfl (by kernel_rfl) (by decide) (fun K hK => ?_)
            refine goes_ Try.func34 (by kernel_rfl) rfl #[.pointer (some ⟨d, 0, none⟩)] (by rfl) rfl rfl (by simp only [List.map_toArray, List.map_cons, List.map_nil]; rfl) ?_
            with_reducible refine (hDead).mono ?_
            rintro e wa ⟨rfl, hwa⟩
            subst hwa
            refine ⟨_, rfl, ?_⟩
            refine hK.out _ _ ⟨e3, e0⟩ (fun hHeld => ?_)
            clear hK K
            refine norm_ (a' := ?_) ?_ ?_
            rotate_left
            · show Act.put _ (some 111) _ = _
              simp only [Act.put, List.setIfInBounds_toArray, List.set_cons_zero, List.set_cons_succ, i64_w, i32_w]
              rfl
            refine pure_ (i := 6) (N := some 116) (v := ?_) (a' := ?_) #[true, true, true, true, true, true, true, false, false, false, false, false, false, false, false, false, false, false, false, false, false, false, false] rfl rfl (by kernel_rfl) (fun _ _ _ h => h) (Or.inl ⟨by rfl, ?_⟩) ?_ ?_
            rotate_left
            · intro w'
              go_simp
              with_reducible rfl
            rotate_left
            · simp only [Act.put, List.setIfInBounds_toArray, List.set_cons_zero, List.set_cons_succ, i64_w, i32_w]
              rfl
            refine pure_ (i := 7) (N := some 117) (v := ?_) (a' := ?_) #[true, true, true, true, true, true, true, true, false, false, false, false, false, false, false, false, false, false, false, false, false, false, false] rfl rfl (by kernel_rfl) (fun _ _ _ h => h) (Or.inl ⟨by rfl, ?_⟩) ?_ ?_
            rotate_left
            · intro w'
              go_simp
              with_reducible rfl
            rotate_left
            · simp only [Act.put, List.setIfInBounds_toArray, List.set_cons_zero, List.set_cons_succ, i64_w, i32_w]
              rfl
            refine pure_ (i := 8) (N := some 118) (v := ?_) (a' := ?_) #[true, true, true, true, true, true, true, true, true, false, false, false, false, false, false, false, false, false, false, false, false, false, false] rfl rfl (by kernel_rfl) (fun _ _ _ h => h) (Or.inl ⟨by rfl, ?_⟩) ?_ ?_
            rotate_left
            · intro w'
              go_simp
              with_reducible rfl
            rotate_left
            · simp only [Act.put, List.setIfInBounds_toArray, List.set_cons_zero, List.set_cons_succ, i64_w, i32_w]
              rfl
            refine pure_ (i := 10) (N := some 120) (v := ?_) (a' := ?_) #[true, true, true, true, true, true, true, true, true, false, true, false, false, false, false, false, false, false, false, false, false, false, false] rfl rfl (by kernel_rfl) (fun _ _ _ h => h) (Or.inl ⟨by rfl, ?_⟩) ?_ ?_
            rotate_left
            · intro w'
              go_simp
              with_reducible rfl
            rotate_left
            · simp only [Act.put, List.setIfInBounds_toArray, List.set_cons_zero, List.set_cons_succ, i64_w, i32_w]
              rfl
            refine one_ (i := 9) (N := some 119) #[true, true, true, true, true, true, true, true, true, true, true, false, false, false, false, false, false, false, false, false, false, false, false] rfl rfl (by kernel_rfl) (by decide) (fun K hK => ?_)
            refine goes_ Try.func33 (by kernel_rfl) rfl #[.pointer (some ⟨d, 0, none⟩)] (by rfl) rfl rfl (by simp only [List.map_toArray, List.map_cons, List.map_nil]; rfl) ?_
            with_reducible refine (hLen).mono ?_
            rintro e wb ⟨rfl, hwb⟩
            subst hwb
            refine ⟨_, rfl, ?_⟩
            refine hK.out _ _ ⟨e3, e0⟩ (fun hHeld => ?_)
            clear hK K
            refine norm_ (a' := ?_) ?_ ?_
            rotate_left
            · show Act.put _ (some 119) _ = _
              simp only [Act.put, List.setIfInBounds_toArray, List.set_cons_zero, List.set_cons_succ, i64_w, i32_w]
              rfl
            refine pure_ (i := 11) (N := some 121) (v := ?_) (a' := ?_) #[true, true, true, true, true, true, true, true, true, true, true, true, false, false, false, false, false, false, false, false, false, false, false] rfl rfl (by kernel_rfl) (fun _ _ _ h => h) (Or.inl ⟨by rfl, ?_⟩) ?_ ?_
            rotate_left
            · intro w'
              go_simp
              with_reducible rfl
            rotate_left
            · simp only [Act.put, List.setIfInBounds_toArray, List.set_cons_zero, List.set_cons_succ, i64_w, i32_w]
              rfl
            refine pure_ (i := 12) (N := some 122) (v := ?_) (a' := ?_) #[true, true, true, true, true, true, true, true, true, true, true, true, true, false, false, false, false, false, false, false, false, false, false] rfl rfl (by kernel_rfl) (fun _ _ _ h => h) (Or.inl ⟨by rfl, ?_⟩) ?_ ?_
            rotate_left
            · intro w'
              go_simp
              with_reducible rfl
            rotate_left
            · simp only [Act.put, List.setIfInBounds_toArray, List.set_cons_zero, List.set_cons_succ, i64_w, i32_w]
              rfl
            refine pure_ (i := 13) (N := some 123) (v := ?_) (a' := ?_) #[true, true, true, true, true, true, true, true, true, true, true, true, true, true, false, false, false, false, false, false, false, false, false] rfl rfl (by kernel_rfl) (fun _ _ _ h => h) (Or.inl ⟨by rfl, ?_⟩) ?_ ?_
            rotate_left
            · intro w'
              go_simp
              with_reducible rfl
            rotate_left
            · simp only [Act.put, List.setIfInBounds_toArray, List.set_cons_zero, List.set_cons_succ, i64_w, i32_w]
              rfl
            refine pure_ (i := 14) (N := some 124) (v := ?_) (a' := ?_) #[true, true, true, true, true, true, true, true, true, true, true, true, true, true, true, false, false, false, false, false, false, false, false] rfl rfl (by kernel_rfl) (fun _ _ _ h => h) (Or.inl ⟨by rfl, ?_⟩) ?_ ?_
            rotate_left
            · intro w'
              go_simp
              with_reducible rfl
            rotate_left
            · simp only [Act.put, List.setIfInBounds_toArray, List.set_cons_zero, List.set_cons_succ, i64_w, i32_w]
              rfl
            refine pure_ (i := 16) (N := some 126) (v := ?_) (a' := ?_) #[true, true, true, true, true, true, true, true, true, true, true, true, true, true, true, false, true, false, false, false, false, false, false] rfl rfl (by kernel_rfl) (fun _ _ _ h => h) (Or.inl ⟨by rfl, ?_⟩) ?_ ?_
            rotate_left
            · intro w'
              go_simp
              with_reducible rfl
            rotate_left
            · simp only [Act.put, List.setIfInBounds_toArray, List.set_cons_zero, List.set_cons_succ, i64_w, i32_w]
              rfl
            refine pure_ (i := 17) (N := some 127) (v := ?_) (a' := ?_) #[true, true, true, true, true, true, true, true, true, true, true, true, true, true, true, false, true, true, false, false, false, false, false] rfl rfl (by kernel_rfl) (fun _ _ _ h => h) (Or.inl ⟨by rfl, ?_⟩) ?_ ?_
            rotate_left
            · intro w'
              go_simp
              with_reducible rfl
            rotate_left
            · simp only [Act.put, List.setIfInBounds_toArray, List.set_cons_zero, List.set_cons_succ, i64_w, i32_w]
              rfl
            refine pure_ (i := 18) (N := some 128) (v := ?_) (a' := ?_) #[true, true, true, true, true, true, true, true, true, true, true, true, true, true, true, false, true, true, true, false, false, false, false] rfl rfl (by kernel_rfl) (fun _ _ _ h => h) (Or.inl ⟨by rfl, ?_⟩) ?_ ?_
            rotate_left
            · intro w'
              go_simp
              with_reducible rfl
            rotate_left
            · simp only [Act.put, List.setIfInBounds_toArray, List.set_cons_zero, List.set_cons_succ, i64_w, i32_w]
              rfl
            refine take_ (i := 19) (N := some 129) (v := ?_) (a' := ?_) #[true, true, true, true, true, true, true, true, true, true, true, true, true, true, true, false, true, true, true, true, false, false, false] rfl rfl (by kernel_rfl) (fun _ _ _ h => h) (Or.inl ⟨by rfl, ?_⟩) hHeld ?_ ?_
            rotate_left
            · rintro w' ⟨s0, s1⟩
              go_simp
              with_reducible rfl
            rotate_left
            · simp only [Act.put, List.setIfInBounds_toArray, List.set_cons_zero, List.set_cons_succ, i64_w, i32_w]
              rfl
            refine one_ (i := 15) (N := some 125) #[true, true, true, true, true, true, true, true, true, true, true, true, true, true, true, true, true, true, true, true, false, false, false] rfl rfl (by kernel_rfl) (by decide) (fun K hK => ?_)
            refine goes_ Try.func28 (by kernel_rfl) rfl #[.pointer (some ⟨d, 0, none⟩)] (by rfl) rfl rfl (by simp only [List.map_toArray, List.map_cons, List.map_nil]; rfl) ?_
            with_reducible refine (hAll).mono ?_
            rintro e wc ⟨vw, rfl, hOc, hbc⟩
            have HOC := hidI hOc
            have HBC := hidI hbc
            have x3 := pw_cell_below hbc e3
            have x0 := pw_cell_below hbc e0
            clear hOc hbc
            refine ⟨_, rfl, ?_⟩
            refine hK.out _ _ ⟨x3, x0⟩ (fun hHeld => ?_)
            clear hK K
            refine norm_ (a' := ?_) ?_ ?_
            rotate_left
            · show Act.put _ (some 125) _ = _
              simp only [Act.put, List.setIfInBounds_toArray, List.set_cons_zero, List.set_cons_succ, i64_w, i32_w]
              rfl
            refine one_ (i := 20) (N := some 130) #[true, true, true, true, true, true, true, true, true, true, true, true, true, true, true, true, true, true, true, true, true, false, false] rfl rfl (by kernel_rfl) (by decide) (fun K hK => ?_)
            refine goes_ Try.func21 (by kernel_rfl) rfl #[vw, u1] (by rfl) rfl rfl (by simp only [List.map_toArray, List.map_cons, List.map_nil]; rfl) ?_
            with_reducible refine (equal_same _ _ vw u1 bb wc HOC.out (HJE.out.own.below HBC.out) HBL.out).mono ?_
            rintro e wd ⟨rfl, mq, hwd⟩
            subst hwd
            have m3 := pw_cell_below (below_drewN (Below.refl wc.heap.size wc) mq) x3
            have m0 := pw_cell_below (below_drewN (Below.refl wc.heap.size wc) mq) x0
            refine ⟨_, rfl, ?_⟩
            refine hK.out _ _ ⟨m3, m0⟩ (fun hHeld => ?_)
            clear hK K
            refine norm_ (a' := ?_) ?_ ?_
            rotate_left
            · show Act.put _ (some 130) _ = _
              simp only [Act.put, List.setIfInBounds_toArray, List.set_cons_zero, List.set_cons_succ, i64_w, i32_w]
              rfl
            refine pure_ (i := 21) (N := some 131) (v := ?_) (a' := ?_) #[true, true, true, true, true, true, true, true, true, true, true, true, true, true, true, true, true, true, true, true, true, true, false] rfl rfl (by kernel_rfl) (fun _ _ _ h => h) (Or.inl ⟨by rfl, ?_⟩) ?_ ?_
            rotate_left
            · intro w'
              go_simp
              with_reducible rfl
            rotate_left
            · simp only [Act.put, List.setIfInBounds_toArray, List.set_cons_zero, List.set_cons_succ, i64_w, i32_w]
              rfl
            refine pure_ (i := 22) (N := some 132) (v := ?_) (a' := ?_) #[true, true, true, true, true, true, true, true, true, true, true, true, true, true, true, true, true, true, true, true, true, true, true] rfl rfl (by kernel_rfl) (fun _ _ _ h => h) (Or.inl ⟨by rfl, ?_⟩) ?_ ?_
            rotate_left
            · intro w'
              go_simp
              with_reducible rfl
            rotate_left
            · simp only [Act.put, List.setIfInBounds_toArray, List.set_cons_zero, List.set_cons_succ, i64_w, i32_w]
              rfl
            refine done_ (by kernel_rfl) ?_
            clear hHeld
            have HF : Hid (AJ w (wc.drewN mq) d g v1 v3 u1 u3 s3 t3 ∧ Sim s3 t3 ∧ Good nb (k + 1) s3 ∧ Good nb (k + 1) t3) := hidI ⟨(HN.out.1.drew.below HBC.out).drewN mq, HN.out.2⟩
            go_wp2_with fail
            go_roundw
            · exact ⟨k + 1, by omega, by simp, v3, u3, s3, t3, HF⟩
            · simp [intOf]; omega
        · as_aux_lemma =>
            have g0 : (f0 % 5 == 0) = false := by rw [hkd]; rfl
            have g1 : (f0 % 5 == 1) = false := by rw [hkd]; rfl
            have g2 : (f0 % 5 == 2) = false := by rw [hkd]; rfl
            have g3 : (f0 % 5 == 3) = false := by rw [hkd]; rfl
            clear hkd
            go_wp2_with fail
            have hB : Blk (wr.alloc (.cells #[.int .u8 f0, .int .i8 f1, .int .i8 f2, .string f3, .slice A4 f4.length c4] 62)) wr.heap.size #[.int .u8 f0, .int .i8 f1, .int .i8 f2, .string f3, .slice A4 f4.length c4] 62 := Blk.new' rfl
            have HJ : Hid (AJ w (wr.alloc (.cells #[.int .u8 f0, .int .i8 f1, .int .i8 f2, .string f3, .slice A4 f4.length c4] 62)) d g v1 v2 u1 u2 s t) := hidI (HI.out.1.below (below_new (Below.refl _ _) _))
            clear h0 h1 h2 h3 h4
            generalize wr.alloc (.cells #[.int .u8 f0, .int .i8 f1, .int .i8 f2, .string f3, .slice A4 f4.length c4] 62) = W at *
            generalize wr.heap.size = x at *
            have q1 : W.cell? ⟨x, 1, none⟩ = some (.int .i8 f1) := hB.c 1
            have q3 : W.cell? ⟨x, 3, none⟩ = some (.string f3) := hB.c 3
            have HB := hidI hB
            clear hB
            clear g0 g1 g2 g3
            obtain ⟨s3, hs3⟩ : ∃ z, z = rsS s f4 := ⟨_, rfl⟩
            have hsim := rsS_sim HI.out.2.1 f4
            have HS : Hid (Sim s3 s3 ∧ Good nb (k + 1) s3 ∧ Good nb (k + 1) s3) := hidI (by
              rw [hs3]; exact ⟨Sim.refl _, (rsS_good HI.out.2.2.1 f4).more, (rsS_good HI.out.2.2.1 f4).more⟩)
            have HFar : Hid (0 < f4.length → ∀ b off, A4 = some ⟨b, off, none⟩ → b < w.heap.size) := hidI (fun h0 b off e => by
              obtain ⟨b', off', e', hc⟩ := C_ints HK4.out h0
              rw [e] at e'
              cases e'
              exact World.block_lt_of_cell? w _ (hc 0 h0))
            have hW1 := restart_any w.heap.size d v1 v2 s A4 c4 f4 W HJ.out.D HJ.out.bel.size (Kd.C_below HK4.out HJ.out.bel) HKV.out (fun h0 b off e hk => by have := HFar.out h0 b off e; have := DS_ge HJ.out.D HJ.out.hd hk; omega)
              (Nat.le_trans HI.out.2.2.1.few (by omega)) (by rw [HI.out.2.2.1.len]; exact HI.out.2.2.1.ins) HI.out.2.2.1.b64 HI.out.2.2.1.w64
            have HW2 : Hid (∀ w5, Below w.heap.size w w5 → ET w5 w.heap.size g u1 u2 t → Calls Try.prog 40 #[.pointer (some ⟨g, 0, none⟩), .slice A4 f4.length c4] w5 (RuP w.heap.size g u1 u2 (.returned (.tuple #[])) s3 w5)) := hidI (fun w5 hb hE => by
              have := rrestart_any w.heap.size g u1 u2 t A4 c4 f4 w5 hE hb.size (Kd.C_below HK4.out hb) HKV.out (fun h0 b off e hk => by have := HFar.out h0 b off e; have := ES_ge hE HJ.out.hg hk; omega)
                (Nat.le_trans HI.out.2.2.2.few (by omega)) (by rw [HI.out.2.2.2.len]; exact HI.out.2.2.2.ins) HI.out.2.2.2.b64 HI.out.2.2.2.w64
              rw [← hsim, ← hs3] at this
              exact this)
            rw [← hs3] at hW1
            clear hs3 hsim
            with_reducible refine hW1.mono ?_
            intro e w5 hM
            obtain ⟨rfl, v3, hJ5, hX5⟩ := HJ.out.mu hM
            have hB5 := hX5 x _ HB.out
            have z4 : w5.cell? ⟨x, 4, none⟩ = some (.slice A4 f4.length c4) := hB5.c 4
            have HJ5 := hidI hJ5
            clear hM hJ5 hX5 hB5 hW1 q1 q3
            simp only []
            go_wp2_with fail
            with_reducible refine (HW2.out _ HJ5.out.bel HJ5.out.E).mono ?_
            intro e w6 hM
            obtain ⟨rfl, u3, hJ6, hX6⟩ := HJ5.out.ru hM
            obtain ⟨t3, ht3⟩ : ∃ t3, t3 = s3 := ⟨_, rfl⟩
            have HN : Hid (AJ w w6 d g v1 v3 u1 u3 s3 t3 ∧ Sim s3 t3 ∧ Good nb (k + 1) s3 ∧ Good nb (k + 1) t3) := hidI (by rw [ht3]; exact ⟨hJ6, HS.out⟩)
            clear hM hJ6 hX6 HJ5 HW2 HS z4 ht3 HFar
            generalize w6 = W5 at *
            simp only []
            go_wp2_with fail
            have hJ := HN.out.1
            have hdead := HN.out.2.1.dead
            have hbs := HN.out.2.1.bs
            have hlen := HN.out.2.2.1.len
            have hDead := dead_any w.heap.size d v1 v3 s3 W5.drew hJ.drew.D
            have hLen := len_any w.heap.size d v1 v3 s3 W5.drew hJ.drew.D
            have hAll := all_any w.heap.size d v1 v3 s3 W5.drew hJ.drew.D (by omega)
            have HJE : Hid (ET W5.drew w.heap.size g u1 u3 t3) := hidI hJ.drew.E
            obtain ⟨bb, hbb⟩ : ∃ bb, bb = s3.bs := ⟨_, rfl⟩
            obtain ⟨dd, hdd⟩ : ∃ dd, dd = s3.dead := ⟨_, rfl⟩
            have HBL : Hid (bb.length ≤ 1000000) := hidI (by rw [hbb]; omega)
            have e3 : W5.cell? ⟨g, 3, none⟩ = some (.bool dd) := by rw [hdd, hdead]; exact hJ.E.blk.c 3
            have e0 : W5.cell? ⟨g, 0, none⟩ = some u1 := hJ.E.blk.c 0
            rw [← hdd] at hDead
            rw [hlen] at hLen
            rw [← hbb] at hAll
            have HJE2 : Hid (Et W5.drew w.heap.size g u1 u3 bb t3.ps t3.fuse t3.dead) := hidI (by rw [hbb, hbs]; exact HJE.out)
            clear HJE
            have HJE := HJE2
            clear HJE2
            have hn1 : (dd != dd) = false := by simp
            have hn2 : ((nb : Int) != (nb : Int)) = false := by simp
            clear hJ hdead hbs hlen hbb hdd
            refine start_ (n := 23) (S := fun w' => w'.cell? ⟨g, 3, none⟩ = some (.bool dd) ∧ w'.cell? ⟨g, 0, none⟩ = some u1) (ds := []) #[false, false, false, false, false, false, false, false, false, false, false, false, false, false, false, false, false, false, false, false, false, false, false] (by kernel_rfl) rfl rfl ⟨e3, e0⟩ (fun hHeld => ?_)
            refine pure_ (i := 0) (N := some 110) (v := ?_) (a' := ?_) #[true, false, false, false, false, false, false, false, false, false, false, false, false, false, false, false, false, false, false, false, false, false, false] rfl rfl (by kernel_rfl) (fun _ _ _ h => h) (Or.inl ⟨by rfl, ?_⟩) ?_ ?_
            rotate_left
            · intro w'
              go_simp
              with_reducible rfl
            rotate_left
            · simp only [Act.put, List.setIfInBounds_toArray, List.set_cons_zero, List.set_cons_succ, i64_w, i32_w]
              rfl
            refine pure_ (i := 2) (N := some 112) (v := ?_) (a' := ?_) #[true, false, true, false, false, false, false, false, false, false, false, false, false, false, false, false, false, false, false, false, false, false, false] rfl rfl (by kernel_rfl) (fun _ _ _ h => h) (Or.inl ⟨by rfl, ?_⟩) ?_ ?_
            rotate_left
            · intro w'
              go_simp
              with_reducible rfl
            rotate_left
            · simp only [Act.put, List.setIfInBounds_toArray, List.set_cons_zero, List.set_cons_succ, i64_w, i32_w]
              rfl
            refine pure_ (i := 3) (N := some 113) (v := ?_) (a' := ?_) #[true, false, true, true, false, false, false, false, false, false, false, false, false, false, false, false, false, false, false, false, false, false, false] rfl rfl (by kernel_rfl) (fun _ _ _ h => h) (Or.inl ⟨by rfl, ?_⟩) ?_ ?_
            rotate_left
            · intro w'
              go_simp
              with_reducible rfl
            rotate_left
            · simp only [Act.put, List.setIfInBounds_toArray, List.set_cons_zero, List.set_cons_succ, i64_w, i32_w]
              rfl
            refine pure_ (i := 4) (N := some 114) (v := ?_) (a' := ?_) #[true, false, true, true, true, false, false, false, false, false, false, false, false, false, false, false, false, false, false, false, false, false, false] rfl rfl (by kernel_rfl) (fun _ _ _ h => h) (Or.inl ⟨by rfl, ?_⟩) ?_ ?_
            rotate_left
            · intro w'
              go_simp
              with_reducible rfl
            rotate_left
            · simp only [Act.put, List.setIfInBounds_toArray, List.set_cons_zero, List.set_cons_succ, i64_w, i32_w]
              rfl
            refine take_ (i := 5) (N := some 115) (v := ?_) (a' := ?_) #[true, false, true, true, true, true, false, false, false, false, false, false, false, false, false, false, false, false, false, false, false, false, false] rfl rfl (by kernel_rfl) (fun _ _ _ h => h) (Or.inl ⟨by rfl, ?_⟩) hHeld ?_ ?_
            rotate_left
            · rintro w' ⟨s0, s1⟩
              go_simp
              with_reducible rfl
            rotate_left
            · simp only [Act.put, List.setIfInBounds_toArray, List.set_cons_zero, List.set_cons_succ, i64_w, i32_w]
              rfl
            refine one_ (i := 1) (N := some 111) #[true, true, true, true, true, true, false, false, false, false, false, false, false, false, false, false, false, false, false, false, false, false, false] rfl rfl (by kernel_rfl) (by decide) (fun K hK => ?_)
            refine goes_ Try.func34 (by kernel_rfl) rfl #[.pointer (some ⟨d, 0, none⟩)] (by rfl) rfl rfl (by simp only [List.map_toArray, List.map_cons, List.map_nil]; rfl) ?_
            with_reducible refine (hDead).mono ?_
            rintro e wa ⟨rfl, hwa⟩
            subst hwa
            refine ⟨_, rfl, ?_⟩
            refine hK.out _ _ ⟨e3, e0⟩ (fun hHeld => ?_)
            clear hK K
            refine norm_ (a' := ?_) ?_ ?_
            rotate_left
            · show Act.put _ (some 111) _ = _
              simp only [Act.put, List.setIfInBounds_toArray, List.set_cons_zero, List.set_cons_succ, i64_w, i32_w]
              rfl
            refine pure_ (i := 6) (N := some 116) (v := ?_) (a' := ?_) #[true, true, true, true, true, true, true, false, false, false, false, false, false, false, false, false, false, false, false, false, false, false, false] rfl rfl (by kernel_rfl) (fun _ _ _ h => h) (Or.inl ⟨by rfl, ?_⟩) ?_ ?_
            rotate_left
            · intro w'
              go_simp
              with_reducible rfl
            rotate_left
            · simp only [Act.put, List.setIfInBounds_toArray, List.set_cons_zero, List.set_cons_succ, i64_w, i32_w]
              rfl
            refine pure_ (i := 7) (N := some 117) (v := ?_) (a' := ?_) #[true, true, true, true, true, true, true, true, false, false, false, false, false, false, false, false, false, false, false, false, false, false, false] rfl rfl (by kernel_rfl) (fun _ _ _ h => h) (Or.inl ⟨by rfl, ?_⟩) ?_ ?_
            rotate_left
            · intro w'
              go_simp
              with_reducible rfl
            rotate_left
            · simp only [Act.put, List.setIfInBounds_toArray, List.set_cons_zero, List.set_cons_succ, i64_w, i32_w]
              rfl
            refine pure_ (i := 8) (N := some 118) (v := ?_) (a' := ?_) #[true, true, true, true, true, true, true, true, true, false, false, false, false, false, false, false, false, false, false, false, false, false, false] rfl rfl (by kernel_rfl) (fun _ _ _ h => h) (Or.inl ⟨by rfl, ?_⟩) ?_ ?_
            rotate_left
            · intro w'
              go_simp
              with_reducible rfl
            rotate_left
            · simp only [Act.put, List.setIfInBounds_toArray, List.set_cons_zero, List.set_cons_succ, i64_w, i32_w]
              rfl
            refine pure_ (i := 10) (N := some 120) (v := ?_) (a' := ?_) #[true, true, true, true, true, true, true, true, true, false, true, false, false, false, false, false, false, false, false, false, false, false, false] rfl rfl (by kernel_rfl) (fun _ _ _ h => h) (Or.inl ⟨by rfl, ?_⟩) ?_ ?_
            rotate_left
            · intro w'
              go_simp
              with_reducible rfl
            rotate_left
            · simp only [Act.put, List.setIfInBounds_toArray, List.set_cons_zero, List.set_cons_succ, i64_w, i32_w]
              rfl
            refine one_ (i := 9) (N := some 119) #[true, true, true, true, true, true, true, true, true, true, true, false, false, false, false, false, false, false, false, false, false, false, false] rfl rfl (by kernel_rfl) (by decide) (fun K hK => ?_)
            refine goes_ Try.func33 (by kernel_rfl) rfl #[.pointer (some ⟨d, 0, none⟩)] (by rfl) rfl rfl (by simp only [List.map_toArray, List.map_cons, List.map_nil]; rfl) ?_
            with_reducible refine (hLen).mono ?_
            rintro e wb ⟨rfl, hwb⟩
            subst hwb
            refine ⟨_, rfl, ?_⟩
            refine hK.out _ _ ⟨e3, e0⟩ (fun hHeld => ?_)
            clear hK K
            refine norm_ (a' := ?_) ?_ ?_
            rotate_left
            · show Act.put _ (some 119) _ = _
              simp only [Act.put, List.setIfInBounds_toArray, List.set_cons_zero, List.set_cons_succ, i64_w, i32_w]
              rfl
            refine pure_ (i := 11) (N := some 121) (v := ?_) (a' := ?_) #[true, true, true, true, true, true, true, true, true, true, true, true, false, false, false, false, false, false, false, false, false, false, false] rfl rfl (by kernel_rfl) (fun _ _ _ h => h) (Or.inl ⟨by rfl, ?_⟩) ?_ ?_
            rotate_left
            · intro w'
              go_simp
              with_reducible rfl
            rotate_left
            · simp only [Act.put, List.setIfInBounds_toArray, List.set_cons_zero, List.set_cons_succ, i64_w, i32_w]
              rfl
            refine pure_ (i := 12) (N := some 122) (v := ?_) (a' := ?_) #[true, true, true, true, true, true, true, true, true, true, true, true, true, false, false, false, false, false, false, false, false, false, false] rfl rfl (by kernel_rfl) (fun _ _ _ h => h) (Or.inl ⟨by rfl, ?_⟩) ?_ ?_
            rotate_left
            · intro w'
              go_simp
              with_reducible rfl
            rotate_left
            · simp only [Act.put, List.setIfInBounds_toArray, List.set_cons_zero, List.set_cons_succ, i64_w, i32_w]
              rfl
            refine pure_ (i := 13) (N := some 123) (v := ?_) (a' := ?_) #[true, true, true, true, true, true, true, true, true, true, true, true, true, true, false, false, false, false, false, false, false, false, false] rfl rfl (by kernel_rfl) (fun _ _ _ h => h) (Or.inl ⟨by rfl, ?_⟩) ?_ ?_
            rotate_left
            · intro w'
              go_simp
              with_reducible rfl
            rotate_left
            · simp only [Act.put, List.setIfInBounds_toArray, List.set_cons_zero, List.set_cons_succ, i64_w, i32_w]
              rfl
            refine pure_ (i := 14) (N := some 124) (v := ?_) (a' := ?_) #[true, true, true, true, true, true, true, true, true, true, true, true, true, true, true, false, false, false, false, false, false, false, false] rfl rfl (by kernel_rfl) (fun _ _ _ h => h) (Or.inl ⟨by rfl, ?_⟩) ?_ ?_
            rotate_left
            · intro w'
              go_simp
              with_reducible rfl
            rotate_left
            · simp only [Act.put, List.setIfInBounds_toArray, List.set_cons_zero, List.set_cons_succ, i64_w, i32_w]
              rfl
            refine pure_ (i := 16) (N := some 126) (v := ?_) (a' := ?_) #[true, true, true, true, true, true, true, true, true, true, true, true, true, true, true, false, true, false, false, false, false, false, false] rfl rfl (by kernel_rfl) (fun _ _ _ h => h) (Or.inl ⟨by rfl, ?_⟩) ?_ ?_
            rotate_left
            · intro w'
              go_simp
              with_reducible rfl
            rotate_left
            · simp only [Act.put, List.setIfInBounds_toArray, List.set_cons_zero, List.set_cons_succ, i64_w, i32_w]
              rfl
            refine pure_ (i := 17) (N := some 127) (v := ?_) (a' := ?_) #[true, true, true, true, true, true, true, true, true, true, true, true, true, true, true, false, true, true, false, false, false, false, false] rfl rfl (by kernel_rfl) (fun _ _ _ h => h) (Or.inl ⟨by rfl, ?_⟩) ?_ ?_
            rotate_left
            · intro w'
              go_simp
              with_reducible rfl
            rotate_left
            · simp only [Act.put, List.setIfInBounds_toArray, List.set_cons_zero, List.set_cons_succ, i64_w, i32_w]
              rfl
            refine pure_ (i := 18) (N := some 128) (v := ?_) (a' := ?_) #[true, true, true, true, true, true, true, true, true, true, true, true, true, true, true, false, true, true, true, false, false, false, false] rfl rfl (by kernel_rfl) (fun _ _ _ h => h) (Or.inl ⟨by rfl, ?_⟩) ?_ ?_
            rotate_left
            · intro w'
              go_simp
              with_reducible rfl
            rotate_left
            · simp only [Act.put, List.setIfInBounds_toArray, List.set_cons_zero, List.set_cons_succ, i64_w, i32_w]
              rfl
            refine take_ (i := 19) (N := some 129) (v := ?_) (a' := ?_) #[true, true, true, true, true, true, true, true, true, true, true, true, true, true, true, false, true, true, true, true, false, false, false] rfl rfl (by kernel_rfl) (fun _ _ _ h => h) (Or.inl ⟨by rfl, ?_⟩) hHeld ?_ ?_
            rotate_left
            · rintro w' ⟨s0, s1⟩
              go_simp
              with_reducible rfl
            rotate_left
            · simp only [Act.put, List.setIfInBounds_toArray, List.set_cons_zero, List.set_cons_succ, i64_w, i32_w]
              rfl
            refine one_ (i := 15) (N := some 125) #[true, true, true, true, true, true, true, true, true, true, true, true, true, true, true, true, true, true, true, true, false, false, false] rfl rfl (by kernel_rfl) (by decide) (fun K hK => ?_)
            refine goes_ Try.func28 (by kernel_rfl) rfl #[.pointer (some ⟨d, 0, none⟩)] (by rfl) rfl rfl (by simp only [List.map_toArray, List.map_cons, List.map_nil]; rfl) ?_
            with_reducible refine (hAll).mono ?_
            rintro e wc ⟨vw, rfl, hOc, hbc⟩
            have HOC := hidI hOc
            have HBC := hidI hbc
            have x3 := pw_cell_below hbc e3
            have x0 := pw_cell_below hbc e0
            clear hOc hbc
            refine ⟨_, rfl, ?_⟩
            refine hK.out _ _ ⟨x3, x0⟩ (fun hHeld => ?_)
            clear hK K
            refine norm_ (a' := ?_) ?_ ?_
            rotate_left
            · show Act.put _ (some 125) _ = _
              simp only [Act.put, List.setIfInBounds_toArray, List.set_cons_zero, List.set_cons_succ, i64_w, i32_w]
              rfl
            refine one_ (i := 20) (N := some 130) #[true, true, true, true, true, true, true, true, true, true, true, true, true, true, true, true, true, true, true, true, true, false, false] rfl rfl (by kernel_rfl) (by decide) (fun K hK => ?_)
            refine goes_ Try.func21 (by kernel_rfl) rfl #[vw, u1] (by rfl) rfl rfl (by simp only [List.map_toArray, List.map_cons, List.map_nil]; rfl) ?_
            with_reducible refine (equal_same _ _ vw u1 bb wc HOC.out (HJE.out.own.below HBC.out) HBL.out).mono ?_
            rintro e wd ⟨rfl, mq, hwd⟩
            subst hwd
            have m3 := pw_cell_below (below_drewN (Below.refl wc.heap.size wc) mq) x3
            have m0 := pw_cell_below (below_drewN (Below.refl wc.heap.size wc) mq) x0
            refine ⟨_, rfl, ?_⟩
            refine hK.out _ _ ⟨m3, m0⟩ (fun hHeld => ?_)
            clear hK K
            refine norm_ (a' := ?_) ?_ ?_
            rotate_left
            · show Act.put _ (some 130) _ = _
              simp only [Act.put, List.setIfInBounds_toArray, List.set_cons_zero, List.set_cons_succ, i64_w, i32_w]
              rfl
            refine pure_ (i := 21) (N := some 131) (v := ?_) (a' := ?_) #[true, true, true, true, true, true, true, true, true, true, true, true, true, true, true, true, true, true, true, true, true, true, false] rfl rfl (by kernel_rfl) (fun _ _ _ h => h) (Or.inl ⟨by rfl, ?_⟩) ?_ ?_
            rotate_left
            · intro w'
              go_simp
              with_reducible rfl
            rotate_left
            · simp only [Act.put, List.setIfInBounds_toArray, List.set_cons_zero, List.set_cons_succ, i64_w, i32_w]
              rfl
            refine pure_ (i := 22) (N := some 132) (v := ?_) (a' := ?_) #[true, true, true, true, true, true, true, true, true, true, true, true, true, true, true, true, true, true, true, true, true, true, true] rfl rfl (by kernel_rfl) (fun _ _ _ h => h) (Or.inl ⟨by rfl, ?_⟩) ?_ ?_
            rotate_left
            · intro w'
              go_simp
              with_reducible rfl
            rotate_left
            · simp only [Act.put, List.setIfInBounds_toArray, List.set_cons_zero, List.set_cons_succ, i64_w, i32_w]
              rfl
            refine done_ (by kernel_rfl) ?_
            clear hHeld
            have HF : Hid (AJ w (wc.drewN mq) d g v1 v3 u1 u3 s3 t3 ∧ Sim s3 t3 ∧ Good nb (k + 1) s3 ∧ Good nb (k + 1) t3) := hidI ⟨(HN.out.1.drew.below HBC.out).drewN mq, HN.out.2⟩
            go_wp2_with fail
            go_roundw
            · exact ⟨k + 1, by omega, by simp, v3, u3, s3, t3, HF⟩
            · simp [intOf]; omega
      · have hlt' : decide ((k : Int) < (l.length : Int)) = false := decide_eq_false (by omega)
        have hfin : Hid (Tru7 w (.returned (.bool true)) wr) := hidI ⟨rfl, HI.out.1.bel⟩
        go_wp2_with fail
        go_ret
        exact hfin.out
end Go.Proofs.Ytckfkbmefdmedaa
namespace Go.Proofs.Rk
open Go.ChangeShapes Go.WideShapes Go.ChangeAt Go.RowKit Go.Proofs.YtckfkbmefdmedaaW.PrintWords
set_option linter.unusedVariables false
set_option linter.unusedSimpArgs false
def RdK (P : Program) (t : TypeId) {α : Type} (κ : Kd α) (ok : α → Prop) : Prop :=
  ∀ {H : Type} {enc : TypeId × Value → H} {w : World} {base : Nat} {spare : Nat → Bool} {held : Bool} {fuel : Nat} {cs : List Value} {x : DataW H × List MemPlace},
    DataW.trod enc P w base spare held fuel t cs = some x → (∀ n ∈ x.1.weights P t, n ≤ reachBytes) → ∃ a, κ.K w a cs ∧ ok a
section
variable {P : Program}
theorem RdK.int {t : TypeId} {k : IntKind} (h : P.underlying t = some (.int k)) : RdK P t (Kd.int k) (fun n => (Lit.int k n).wf = true) := by
  intro H enc w base spare held fuel cs x h' _
  obtain ⟨n, rfl, _, hw⟩ := DataW.trod_int h h'
  exact ⟨n, rfl, hw⟩
theorem RdK.bool {t : TypeId} (h : P.underlying t = some .bool) : RdK P t Kd.bool (fun _ => True) := by
  intro H enc w base spare held fuel cs x h' _
  obtain ⟨b, rfl, _⟩ := DataW.trod_bool h h'
  exact ⟨b, rfl, trivial⟩
theorem RdK.str {t : TypeId} (h : P.underlying t = some .string) : RdK P t Kd.string (fun s => s.size ≤ 140737488351232) := by
  intro H enc w base spare held fuel cs x h' hw
  obtain ⟨s, rfl, rfl, _⟩ := DataW.trod_string h h'
  refine ⟨s, rfl, ?_⟩
  have := hw s.data.toList.length (by simp [DataW.weights])
  simpa [reachBytes] using this
theorem weightsAll_mem {H : Type} {e : TypeId} : ∀ {l : List (DataW H)} {d : DataW H} {n : Nat}, d ∈ l → n ∈ d.weights P e → n ∈ DataW.weightsAll P e l
  | [], _, _, h, _ => by simp at h
  | x :: l, d, n, h, hn => by
    simp only [DataW.weightsAll, List.mem_append]
    rcases List.mem_cons.1 h with rfl | h
    · exact .inl hn
    · exact .inr (weightsAll_mem h hn)
theorem RdK.slice {t e : TypeId} {α : Type} {κ : Kd α} {ok : α → Prop} (hr : RdK P e κ ok) (q : Nat) {C B : Nat} (hC : P.cellsOf e = C) (hC' : C = κ.sz) (hB : P.bytesOf e = B) (ht : P.underlying t = some (.slice e)) :
    RdK P t (Kd.slice q κ) (fun xs => (∀ x ∈ xs, ok x) ∧ xs.length * B ≤ 140737488351232) := by
  intro H enc w base spare held fuel cs x h' hw
  subst hC'
  rcases DataW.trod_slice ht h' with ⟨rfl, _⟩ | ⟨a, l, c, elems, rest, n, _, rfl, hx, hb, hlc, hcm, hel, hi, _⟩
  · exact ⟨[], ⟨none, 0, rfl, Nat.le_refl _, rfl, by simp, fun h => absurd h (by simp)⟩, fun x hx => by simp at hx, by simp⟩
  · subst hx
    have hwe : ∀ (i : Nat) (h : i < elems.length), ∀ n ∈ (elems[i]).1.weights P e, n ≤ reachBytes := by
      intro i h n hn
      refine hw n ?_
      simp only [DataW.weights, ht, List.mem_cons, List.mem_append]
      exact .inr (.inl (weightsAll_mem (List.mem_map.2 ⟨_, List.getElem_mem h, rfl⟩) hn))
    have hlb : l * B ≤ 140737488351232 := by
      have h1 := hw ((elems.length + rest.length) * P.bytesOf e) (by simp [DataW.weights, ht])
      have h2 := Nat.mul_le_mul_right (P.bytesOf e) (Nat.le_add_right elems.length rest.length)
      rw [hB] at h1 h2
      rw [hel] at h2 h1
      have h3 := Nat.le_trans h2 h1
      simpa [reachBytes] using h3
    obtain ⟨xs, hxl, hxs⟩ := list_of (Q := fun i (x : α) => ok x ∧ ∃ cs : List Value, κ.K w x cs ∧ ∀ (j : Nat) (v : Value), cs[j]? = some v → w.cell? (a.add (i * κ.sz + j)) = some v) l (fun i hlt => by
      have h1 := hi i hlt
      rw [List.getElem?_eq_getElem (by omega)] at h1
      obtain ⟨cs, hcs, htr⟩ := Option.bind_eq_some_iff.1 h1
      obtain ⟨x, hK, hok⟩ := hr htr (hwe i (by omega))
      obtain ⟨_, hl, hat⟩ := World.cells?_some hcs
      refine ⟨x, hok, cs, hK, fun j v hj => ?_⟩
      have hjl : j < P.cellsOf e := by
        rw [← hl]; exact (List.getElem?_eq_some_iff.1 hj).1
      have := hat j hjl
      rw [hj, hC] at this
      rw [add_add] at this
      exact this)
    have hcm' : c ≤ 9223372036854775807 := hcm
    subst hxl
    refine ⟨xs, ⟨some a, c, rfl, hlc, rfl, by omega, fun _ => ⟨a, rfl, fun j p hj => ?_⟩⟩, fun x hx => ?_, hlb⟩
    · obtain ⟨hjl, rfl⟩ := List.getElem?_eq_some_iff.1 hj
      obtain ⟨_, cs, hK, hc⟩ := hxs j hjl
      exact ⟨cs, κ.K_len hK, hK, hc⟩
    · obtain ⟨i, hlt, rfl⟩ := List.getElem_of_mem hx
      exact (hxs i hlt).1
variable {H : Type} {enc : TypeId × Value → H} {w : World} {base : Nat} {spare : Nat → Bool} {held : Bool}
theorem fldx {fs : Array Field} {n : Nat} {cs : List Value} {xs : List (DataW H × List MemPlace)}
    (hg : ∀ (i : Nat) (f : Field), fs[i]? = some f → DataW.trod enc P w base spare held n f.type ((cs.drop f.offset).take (P.cellsOf f.type)) = xs[i]?) (hxl : xs.length = fs.size)
    (i : Nat) (f : Field) (hf : fs[i]? = some f) (t off k : Nat) (ht : f.type = t) (ho : f.offset = off) (hk : P.cellsOf t = k) :
    ∃ x, xs[i]? = some x ∧ DataW.trod enc P w base spare held n t ((cs.drop off).take k) = some x ∧ ∀ m ∈ x.1.weights P t, m ∈ DataW.weightsEach P (fs.toList.map (·.type)) (xs.map (·.1)) := by
  have h := hg i f hf
  rw [ht, ho, hk] at h
  have hi : i < xs.length := by rw [hxl]; exact (Array.getElem?_eq_some_iff.1 hf).1
  refine ⟨_, List.getElem?_eq_getElem hi, h.trans (List.getElem?_eq_getElem hi), fun m hm => ?_⟩
  refine DataW.weights_mem_each (j := i) (t := t) (d := xs[i].1) ?_ ?_ m hm
  · rw [List.getElem?_map]
    have : fs.toList[i]? = some f := by rw [Array.getElem?_toList]; exact hf
    rw [this]; simp [ht]
  · rw [List.getElem?_map, List.getElem?_eq_getElem hi]; rfl
theorem weights_agg {t : TypeId} {fs : Array Field} {parts : List (DataW H)} (ht : P.underlying t = some (.struct fs)) : (DataW.agg parts).weights P t = DataW.weightsEach P (fs.toList.map (·.type)) parts := by simp only [DataW.weights, ht]
theorem weights_at {ts : List TypeId} {ds : List (DataW H)} (hsz : (DataW.weightsEach P ts ds).all (· ≤ reachBytes) = true) {j : Nat} {t : TypeId} {d : DataW H} (ht : ts[j]? = some t) (hd : ds[j]? = some d) : ∀ n ∈ d.weights P t, n ≤ reachBytes := fun n hn => by
  have := List.all_eq_true.1 hsz _ (DataW.weights_mem_each ht hd n hn)
  simpa using this
theorem arg_slice {t : TypeId} {α : Type} {κ : Kd α} {q : Nat} {ok' : List α → Prop} (hr : RdK P t (Kd.slice q κ) ok') {ts : List TypeId} {ds : List (DataW H)} (hsz : (DataW.weightsEach P ts ds).all (· ≤ reachBytes) = true) {j : Nat} {d : DataW H} {ps : List MemPlace} (ht : ts[j]? = some t) (hd : ds[j]? = some d)
    {ad : Option Addr} {len cap : Nat} (h : DataW.Trod enc P w base spare held t (.slice ad len cap) d ps) : ∃ xs : List α, len = xs.length ∧ xs.length ≤ cap ∧ Kd.C κ w ad xs.length xs ∧ ok' xs := by
  obtain ⟨fuel, hf⟩ := h
  obtain ⟨xs, ⟨A, c, e, hc, hC⟩, ho⟩ := hr hf (weights_at hsz ht hd)
  simp [Value.cells] at e
  obtain ⟨rfl, rfl, rfl⟩ := e
  exact ⟨xs, rfl, hc, hC, ho⟩
end
end Go.Proofs.Rk
namespace Go.Proofs.Ytckfkbmefdmedaa
open Go.RowKit Go.Proofs.Rk Go.Proofs.YtckfkbmefdmedaaW.PrintWords Go.Proofs.Ytckfkbmefdmedaa.Q
set_option linter.unusedVariables false
set_option linter.unusedSimpArgs false
theorem lenk_62 {cs : List Value} (h : cs.length = 5) : ∃ c0 c1 c2 c3 c4, cs = [c0, c1, c2, c3, c4] := by
  match cs, h with
  | [c0, c1, c2, c3, c4], _ => exact ⟨c0, c1, c2, c3, c4, rfl⟩
def okk62 (a : S62) : Prop := (fun n => (Lit.int .u8 n).wf = true) a.f0 ∧ (fun n => (Lit.int .i8 n).wf = true) a.f1 ∧ (fun n => (Lit.int .i8 n).wf = true) a.f2 ∧ (fun s => s.size ≤ 140737488351232) a.f3 ∧ (fun xs => (∀ x ∈ xs, (fun n => (Lit.int .u8 n).wf = true) x) ∧ xs.length * 1 ≤ 140737488351232) a.f4
theorem rdk62 : RdK Try.prog 62 k62 okk62 := by
  intro H enc w base spare held fuel cs x h hw
  obtain ⟨xs, m, _, hx, hlen, hxl, hg⟩ := DataW.trod_struct Try.underlying62 h
  have e : (DataW.agg (xs.map (·.1))).weights Try.prog 62 = DataW.weightsEach Try.prog [5, 60, 60, 9, 42] (xs.map (·.1)) := weights_agg Try.underlying62
  have hx1 : x.1 = DataW.agg (xs.map (·.1)) := congrArg Prod.fst hx
  rw [hx1, e] at hw
  have hw2 := hw
  clear e hx1 hx
  have hlen' : cs.length = 5 := hlen.trans (by kernel_rfl)
  clear hlen h hw
  obtain ⟨c0, c1, c2, c3, c4, rfl⟩ := lenk_62 hlen'
  clear hlen'
  obtain ⟨x0, _, g0, u0⟩ := fldx hg hxl 0 _ rfl 5 0 1 rfl rfl (by kernel_rfl)
  obtain ⟨a0, K0, o0⟩ := (RdK.int Try.underlying5) g0 (fun m hm => hw2 m (u0 m hm))
  obtain ⟨x1, _, g1, u1⟩ := fldx hg hxl 1 _ rfl 60 1 1 rfl rfl (by kernel_rfl)
  obtain ⟨a1, K1, o1⟩ := (RdK.int Try.underlying60) g1 (fun m hm => hw2 m (u1 m hm))
  obtain ⟨x2, _, g2, u2⟩ := fldx hg hxl 2 _ rfl 60 2 1 rfl rfl (by kernel_rfl)
  obtain ⟨a2, K2, o2⟩ := (RdK.int Try.underlying60) g2 (fun m hm => hw2 m (u2 m hm))
  obtain ⟨x3, _, g3, u3⟩ := fldx hg hxl 3 _ rfl 9 3 1 rfl rfl (by kernel_rfl)
  obtain ⟨a3, K3, o3⟩ := (RdK.str Try.underlying9) g3 (fun m hm => hw2 m (u3 m hm))
  obtain ⟨x4, _, g4, u4⟩ := fldx hg hxl 4 _ rfl 42 4 1 rfl rfl (by kernel_rfl)
  obtain ⟨a4, K4, o4⟩ := (RdK.slice (RdK.int Try.underlying5) 5 (C := 1) (B := 1) (by kernel_rfl) rfl (by kernel_rfl) Try.underlying42) g4 (fun m hm => hw2 m (u4 m hm))
  exact ⟨⟨a0, a1, a2, a3, a4⟩, ⟨_, _, rfl, K0, ⟨_, _, rfl, K1, ⟨_, _, rfl, K2, ⟨_, _, rfl, K3, K4⟩⟩⟩⟩, ⟨o0, o1, o2, o3, o4⟩⟩
end Go.Proofs.Ytckfkbmefdmedaa
namespace Go.Proofs.Ytckfkbmefdmedaa
open Go.RowKit Go.Proofs.Rk Go.Proofs.YtckfkbmefdmedaaW.PrintWords Go.Proofs.Ytckfkbmefdmedaa.Q
set_option linter.unusedVariables false
theorem walk7 (a0 : Int) (a1 : Option Addr) (xs : List S62) (c1 : Nat) (w : World) (h0 : (Lit.int .u8 a0).wf = true) (l1 : xs.length ≤ c1) (h1 : Kd.C k62 w a1 xs.length xs) (y1 : (∀ x ∈ xs, okk62 x) ∧ xs.length * 48 ≤ 140737488351232) :
    Calls Try.prog 7 #[.int .u8 a0, .slice a1 xs.length c1] w fun e w' => e = .returned (.bool true) ∧ Below w.heap.size w w' :=
  acts_any a0 a1 c1 xs w (bounds_u8 h0) h1 l1 (fun a ha => by
    obtain ⟨o0, o1, o2, o3, o4, o5⟩ := y1.1 a ha
    exact ⟨bounds_u8 o0, bounds_i8 o1, bounds_i8 o2, fun x hx => bounds_u8 (o4 x hx)⟩) (by have := y1.2; omega)
end Go.Proofs.Ytckfkbmefdmedaa
