import Derived.Test.YtliacfjdenfldaaOd
import Derived.Laws.BytesArg
namespace Go.Proofs.Ytliacfjdenfldaa
open Go.RowKit Go.Proofs.Kq
open Go.Proofs.YtliacfjdenfldaaW.PrintWords (pw_cell_below step_append_cells print_append_cells Kd Kd.C Kd.C_below)
open Go.Proofs.YtliacfjdenfldaaW.PrintLast
set_option linter.unusedSimpArgs false
set_option linter.unusedVariables false

/-- what is taken again -/
theorem text_again (x : ByteArray) (rest : List Int) (h : x.size ≤ 65535) : textB (strOfNums (lowI 2 (x.size : Int) ++ bn x ++ rest)) false = (x, strOfNums rest, false) := by
  have h2 : (lowI 2 (x.size : Int)).length = 2 := lowI_len _ _
  have hsz : 2 ≤ (strOfNums (lowI 2 (x.size : Int) ++ bn x ++ rest)).size := by rw [sn_size, List.length_append, List.length_append, h2]; omega
  have e1 : takeB (strOfNums (lowI 2 (x.size : Int) ++ bn x ++ rest)) false 2 = (strOfNums (lowI 2 (x.size : Int)), strOfNums (bn x ++ rest), false) := by
    rw [takeB_ok hsz, sn_take, sn_drop, List.append_assoc, List.take_left' h2, List.drop_left' h2]
  unfold textB
  rw [e1]
  simp only []
  rw [if_neg (by rw [sn_size, h2]; decide), bn_sn (lowI_mem _ _), vI_low 2 _ (by omega) (by omega)]
  simp only [Int.toNat_natCast]
  have hb : (bn x).length = x.size := bn_len x
  have hsz2 : x.size ≤ (strOfNums (bn x ++ rest)).size := by rw [sn_size, List.length_append, hb]; omega
  rw [takeB_ok hsz2, sn_take, sn_drop, List.take_left' hb, List.drop_left' hb, sn_bn]
theorem int_again (n : Int) (rest : List Int) (h : -9223372036854775808 ≤ n ∧ n ≤ 9223372036854775807) : intB (strOfNums (lowI 8 (IntKind.u64.wrap n) ++ rest)) false = (n, strOfNums rest, false) := by
  have h2 : (lowI 8 (IntKind.u64.wrap n)).length = 8 := lowI_len _ _
  have hsz : 8 ≤ (strOfNums (lowI 8 (IntKind.u64.wrap n) ++ rest)).size := by rw [sn_size, List.length_append, h2]; omega
  have e1 : takeB (strOfNums (lowI 8 (IntKind.u64.wrap n) ++ rest)) false 8 = (strOfNums (lowI 8 (IntKind.u64.wrap n)), strOfNums rest, false) := by
    rw [takeB_ok hsz, sn_take, sn_drop, List.take_left' h2, List.drop_left' h2]
  obtain ⟨hu0, hu1⟩ := u64_bd n
  unfold intB
  rw [e1]
  simp only []
  rw [if_neg (by rw [sn_size, h2]; decide), bn_sn (lowI_mem _ _), vI_low 8 _ hu0 (by have : (256 : Int) ^ 8 = 18446744073709551616 := by decide
                                                                                     omega)]
  have e : wrap64 (IntKind.u64.wrap n) = n := by rw [IntKind.wrap_u64]; unfold wrap64; omega
  rw [e]
theorem WP.bel {w0 w w' : World} {g : Nat} {v : Value} {bs : List Int} {bad : Bool} {e : Ending} {base : Nat} (h : Fr (fun k => k = g ∨ v.ownBlock = some k) w w') (hW : Wt w w0.heap.size g v bs bad) (hg : w0.heap.size ≤ g) (hb : Below w0.heap.size w0 w) : Below w0.heap.size w0 w' := by
  refine ((Fr.of_below (S := fun k => w0.heap.size ≤ k) hb).trans h (fun b _ e => ?_)).toBelow (fun b hb2 hk => by omega)
  rcases e with rfl | e
  · exact hg
  · exact hW.own.ge e
def WG (w0 : World) (g : Nat) (bs : List Int) (bad : Bool) (w : World) : Prop := ∃ v, Wt w w0.heap.size g v bs bad ∧ w0.heap.size ≤ g ∧ Below w0.heap.size w0 w
theorem WG.below {w0 w w1 : World} {g : Nat} {bs : List Int} {bad : Bool} (h : WG w0 g bs bad w) (hb : Below w.heap.size w w1) : WG w0 g bs bad w1 := by
  obtain ⟨v, ⟨h1, h2⟩, h3, h4⟩ := h
  exact ⟨v, ⟨h1.be hb, h2.below hb⟩, h3, below_step h4 hb⟩
theorem wint_wg {w0 w : World} {g : Nat} {bs : List Int} {bad : Bool} (n : Int) (h : WG w0 g bs bad w) (hl : bs.length ≤ 1000000000) :
    Calls Try.prog 39 #[.pointer (some ⟨g, 0, none⟩), .int .i64 n] w fun e w' => e = .returned (.pointer (some ⟨g, 0, none⟩)) ∧ WG w0 g (bs ++ lowI 8 (IntKind.u64.wrap n)) bad w' := by
  obtain ⟨v, h1, h3, h4⟩ := h
  refine (wint_any w0.heap.size g v bs bad n w h1 h4.size hl).mono ?_
  rintro e w' ⟨v', rfl, h5, h6⟩
  exact ⟨rfl, v', h5, h3, WP.bel (e := .outgrown) (base := 0) h6 h1 h3 h4⟩
def wT (bs : List Int) (s : ByteArray) : List Int := if 65535 < s.size then bs else bs ++ lowI 2 (s.size : Int) ++ bn s
theorem wtext_wg {w0 w : World} {g : Nat} {bs : List Int} {bad : Bool} (s : ByteArray) (h : WG w0 g bs bad w) (hl : bs.length ≤ 1000000000) :
    Calls Try.prog 38 #[.pointer (some ⟨g, 0, none⟩), .string s] w fun e w' => e = .returned (.pointer (some ⟨g, 0, none⟩)) ∧ WG w0 g (wT bs s) (bad || decide (65535 < s.size)) w' := by
  obtain ⟨v, h1, h3, h4⟩ := h
  refine (wtext_any w0.heap.size g v bs bad s w h1 h4.size hl).mono ?_
  rintro e w' ⟨v', rfl, h5, h6⟩
  exact ⟨rfl, v', h5, h3, WP.bel (e := .outgrown) (base := 0) h6 h1 h3 h4⟩
theorem WG.new {w0 w : World} (hb : Below w0.heap.size w0 w) : WG w0 w.heap.size [] false (w.alloc (.cells #[.slice none 0 0, .bool false] 66)) :=
  ⟨.slice none 0 0, ⟨Blk.new' rfl, Own.nil _ _ _ _ _⟩, hb.size, below_new hb _⟩
theorem wbytes_wg {w0 w : World} {g : Nat} {bs : List Int} {bad : Bool} (h : WG w0 g bs bad w) : Calls Try.prog 40 #[.pointer (some ⟨g, 0, none⟩)] w (BytesP bs bad w) := by
  obtain ⟨v, h1, _⟩ := h
  exact wbytes_any w0.heap.size g v bs bad w h1
set_option maxRecDepth 100000 in
set_option maxHeartbeats 2000000 in
theorem lives36 (w : World) : Calls Try.prog 36 #[] w fun e w' => e = .returned (.bool true) ∧ Below w.heap.size w w' := by
  have he : strOfNums (wT ([] ++ lowI 8 (IntKind.u64.wrap 1)) ⟨#[97]⟩) = ⟨#[1, 0, 0, 0, 0, 0, 0, 0, 1, 0, 97]⟩ := by kernel_rfl
  have he2 : (false || decide (65535 < (⟨#[97]⟩ : ByteArray).size)) = false := by kernel_rfl
  have hl : (wT ([] ++ lowI 8 (IntKind.u64.wrap 1)) ⟨#[97]⟩).length = 11 := by kernel_rfl
  have HE := hidI he
  have HE2 := hidI he2
  clear he he2 hl
  go_enter Try.func36, Try.ntmps36
  go_wp2_with fail
  refine (wint_wg 1 (WG.new (Below.refl _ w)) (by simp)).mono ?_
  rintro e w1 ⟨rfl, h1⟩
  simp only []
  go_wp2_with fail
  refine (wtext_wg ⟨#[97]⟩ h1 (by simp [lowI_len])).mono ?_
  rintro e w2 ⟨rfl, h2⟩
  rw [HE2.out] at h2
  simp only []
  go_wp2_with fail
  refine (wbytes_wg h2).mono ?_
  rintro e w3 ⟨rfl, rfl⟩
  obtain ⟨v, _, _, hb⟩ := h2
  simp only [Bool.false_eq_true, if_false, HE.out]
  clear h1
  go_wp2
  go_ret
  exact ⟨rfl, hb⟩
end Go.Proofs.Ytliacfjdenfldaa
