/- What the statement leans on, part 3: functions of the program and of the reference as Lean functions, their contracts, and plain laws. -/
import Derived.Laws.StructEq
import Derived.Shelf.SlGeneric
import Derived.Shelf.Spec.SlicesGrow
import Derived.Ground.Names8Prog
import Derived.Test.YtckfkbmefdmedaaMJO2
namespace Go.Proofs.Ytckfkbmefdmedaa.Q
open Go.RowKit Go.Proofs.YtckfkbmefdmedaaW.PrintWords Go.Proofs.YtckfkbmefdmedaaW.PrintLast Go.Proofs.YtckfkbmefdmedaaW.PrintMore
attribute [local go_sem] max2_int min2_int max_two min_two max_three min_three max_four min_four   -- for this text's walks alone
set_option linter.unusedVariables false
set_option linter.unusedSimpArgs false
def slices_Equal_string_string.l0 : Nat → List ByteArray → List ByteArray → Int → Int → Option (Bool)
 | 0, _, _, _, _ => none
 | k + 1, x0, x1, x12, x13 => if x13 < x12 then (if 0 ≤ x13 then (if x13 < (x0.length : Int) then (if x13 < (x1.length : Int) then (if (rdOf ByteArray.empty x0 x13).toList = (rdOf ByteArray.empty x1 x13).toList then (slices_Equal_string_string.l0 k x0 x1 x12 (wrap64 (x13 + 1))) else (some false)) else (none)) else (none)) else (none)) else (some true)
def slices_Equal_string_string.f (k : Nat) (l0 : List ByteArray) (l1 : List ByteArray) : Option (Bool) := if (l0.length : Int) = (l1.length : Int) then (slices_Equal_string_string.l0 k l0 l1 (l0.length : Int) 0) else (some false)
set_option maxHeartbeats 8000000 in
set_option maxRecDepth 100000 in
theorem slices_Equal_string_string.calls (k : Nat) (A0 : Option Addr) (c0 : Nat) (l0 : List ByteArray) (A1 : Option Addr) (c1 : Nat) (l1 : List ByteArray) (r : Bool) (w : World) (hr0 : Kd.C Kd.string w A0 l0.length l0) (hc0 : l0.length ≤ c0) (hr1 : Kd.C Kd.string w A1 l1.length l1) (hc1 : l1.length ≤ c1) (h : slices_Equal_string_string.f k l0 l1 = some r) :
  Calls Try.prog 21 #[.slice A0 l0.length c0, .slice A1 l1.length c1] w fun e w' => e = .returned (.bool r) ∧ Drawn0 w w' := by
 have HR0 := Aside0.mk hr0
 have HC0 := Aside0.mk hc0
 clear hr0 hc0
 have HR1 := Aside0.mk hr1
 have HC1 := Aside0.mk hc1
 clear hr1 hc1
 have H : (if (l0.length : Int) = (l1.length : Int) then (slices_Equal_string_string.l0 k l0 l1 (l0.length : Int) 0) else (some false)) = some r := h
 clear h
 by_cases c3 : (l0.length : Int) = (l1.length : Int)
 ·rw [if_pos c3] at H
  have c3b0 : ((l0.length : Int) == (l1.length : Int)) = true := beq_iff_eq.mpr c3
  have c3b1 : ((l0.length : Int) != (l1.length : Int)) = false := bne_eq_false_iff_eq.mpr c3
  have c3b2 : (l0.length == l1.length) = true := by first | simpa using c3 | (simp at c3 ⊢; omega)
  clear c3
  have H' := Aside0.mk H
  clear H
  go_enter Try.func21, Try.ntmps21
  go_wp2
  repeat (go_quiet (fail); try go_wp2)
  go_loopg [13] k (fun kq v13 w' => ∃ (x13_1 : Int), v13 = .int .i64 x13_1 ∧ Aside0 (slices_Equal_string_string.l0 kq l0 l1 (l0.length : Int) x13_1 = some r) ∧ Aside0 (kq ≤ k) ∧ Drawn0 w w')
  case atStart => exact ⟨(0), (by first | rfl | (simp; done) | (simp [*]; done)), H', ⟨Nat.le_refl _⟩, by repeat (first | exact Drawn0.refl _ | apply Drawn0.step)⟩
  case round =>
   clear H'
   try clear c1
   try clear c2
   try clear p2
   try clear c3
   try clear c3b0
   try clear c3b1
   try clear c3b2
   obtain ⟨x13_1, rfl, HA, HK1, ⟨m1, rfl⟩⟩ := hrel
   cases gk with
   | zero => exact absurd HA.out (by simp [slices_Equal_string_string.l0])
   | succ k1 =>
    have H := HA.out
    clear HA
    simp only [slices_Equal_string_string.l0] at H
    by_cases c4 : x13_1 < (l0.length : Int)
    ·rw [if_pos c4] at H
     have c4b0 : decide (x13_1 < (l0.length : Int)) = true := decide_eq_true c4
     clear c4
     by_cases c5 : 0 ≤ x13_1
     ·rw [if_pos c5] at H
      have c5b0 : decide (0 ≤ x13_1) = true := decide_eq_true c5
      clear c5
      by_cases c6 : x13_1 < (l0.length : Int)
      ·rw [if_pos c6] at H
       have c6b0 : decide (x13_1 < (l0.length : Int)) = true := decide_eq_true c6
       clear c6
       by_cases c7 : x13_1 < (l1.length : Int)
       ·rw [if_pos c7] at H
        have c7b0 : decide (x13_1 < (l1.length : Int)) = true := decide_eq_true c7
        clear c7
        by_cases c8 : (rdOf ByteArray.empty l0 x13_1).toList = (rdOf ByteArray.empty l1 x13_1).toList
        ·rw [if_pos c8] at H
         have c8b0 : ((rdOf ByteArray.empty l0 x13_1).toList == (rdOf ByteArray.empty l1 x13_1).toList) = true := beq_iff_eq.mpr c8
         have c8b1 : ((rdOf ByteArray.empty l0 x13_1).toList != (rdOf ByteArray.empty l1 x13_1).toList) = false := bne_eq_false_iff_eq.mpr c8
         clear c8
         have H' := Aside0.mk H
         clear H
         have p155 : 0 ≤ (x13_1 : Int) := of_decide_eq_true (by first | (with_reducible assumption) | assumption)
         have q155 : x13_1 < (l0.length : Int) := of_decide_eq_true (by first | (with_reducible assumption) | assumption)
         obtain ⟨ad155, e155, hx155_0⟩ := Kd.at_string HR0.out x13_1 p155 q155
         cases e155
         replace p155 := eq_true p155
         replace q155 := eq_true q155
         have p156 : 0 ≤ (x13_1 : Int) := of_decide_eq_true (by first | (with_reducible assumption) | assumption)
         have q156 : x13_1 < (l1.length : Int) := of_decide_eq_true (by first | (with_reducible assumption) | assumption)
         obtain ⟨ad156, e156, hx156_0⟩ := Kd.at_string HR1.out x13_1 p156 q156
         cases e156
         replace p156 := eq_true p156
         replace q156 := eq_true q156
         go_wp2
         repeat (go_quiet (fail); try go_wp2)
         go_roundg k1
         case measure => have := HK1.out; omega
         case rel => exact ⟨(wrap64 (x13_1 + 1)), (by first | rfl | (simp; done) | (simp [*]; done)), H', ⟨by have := HK1.out; omega⟩, by repeat (first | exact Drawn0.refl _ | apply Drawn0.step)⟩
        ·rw [if_neg c8] at H
         have c8b0 : ((rdOf ByteArray.empty l0 x13_1).toList == (rdOf ByteArray.empty l1 x13_1).toList) = false := beq_eq_false_iff_ne.mpr c8
         have c8b1 : ((rdOf ByteArray.empty l0 x13_1).toList != (rdOf ByteArray.empty l1 x13_1).toList) = true := bne_iff_ne.mpr c8
         obtain rfl := Option.some.inj H
         have p155 : 0 ≤ (x13_1 : Int) := of_decide_eq_true (by first | (with_reducible assumption) | assumption)
         have q155 : x13_1 < (l0.length : Int) := of_decide_eq_true (by first | (with_reducible assumption) | assumption)
         obtain ⟨ad155, e155, hx155_0⟩ := Kd.at_string HR0.out x13_1 p155 q155
         cases e155
         replace p155 := eq_true p155
         replace q155 := eq_true q155
         have p156 : 0 ≤ (x13_1 : Int) := of_decide_eq_true (by first | (with_reducible assumption) | assumption)
         have q156 : x13_1 < (l1.length : Int) := of_decide_eq_true (by first | (with_reducible assumption) | assumption)
         obtain ⟨ad156, e156, hx156_0⟩ := Kd.at_string HR1.out x13_1 p156 q156
         cases e156
         replace p156 := eq_true p156
         replace q156 := eq_true q156
         go_wp2
         repeat (go_quiet (fail); try go_wp2)
         go_ret
         exact ⟨by first | rfl | (simp; done) | (simp [*]; done), by repeat (first | exact Drawn0.refl _ | apply Drawn0.step)⟩
       ·rw [if_neg c7] at H
        exact absurd H (by simp)
      ·rw [if_neg c6] at H
       exact absurd H (by simp)
     ·rw [if_neg c5] at H
      exact absurd H (by simp)
    ·rw [if_neg c4] at H
     have c4b0 : decide (x13_1 < (l0.length : Int)) = false := decide_eq_false c4
     clear c4
     obtain rfl := Option.some.inj H
     go_wp2
     repeat (go_quiet (fail); try go_wp2)
     go_ret
     exact ⟨by first | rfl | (simp; done) | (simp [*]; done), by repeat (first | exact Drawn0.refl _ | apply Drawn0.step)⟩
 ·rw [if_neg c3] at H
  have c3b0 : ((l0.length : Int) == (l1.length : Int)) = false := beq_eq_false_iff_ne.mpr c3
  have c3b1 : ((l0.length : Int) != (l1.length : Int)) = true := bne_iff_ne.mpr c3
  have c3b2 : (l0.length == l1.length) = false := by first | simpa using c3 | (simp at c3 ⊢; omega)
  obtain rfl := Option.some.inj H
  go_enter Try.func21, Try.ntmps21
  go_wp2
  repeat (go_quiet (fail); try go_wp2)
  go_ret
  exact ⟨by first | rfl | (simp; done) | (simp [*]; done), by repeat (first | exact Drawn0.refl _ | apply Drawn0.step)⟩
end Go.Proofs.Ytckfkbmefdmedaa.Q
namespace Go.Proofs.Ytckfkbmefdmedaa
open Go.RowKit Go.Proofs.Kq Go.Proofs.Ytckfkbmefdmedaa.Q
open Go.Proofs.YtckfkbmefdmedaaW.PrintWords (pw_cell_below Kd Kd.C Kd.C_below Kd.R_of_own Kd.R_reads encs)
set_option linter.unusedVariables false
set_option linter.unusedSimpArgs false
theorem eqd_loop (a : List ByteArray) (hl : a.length ≤ 1000000) : ∀ r i : Nat, i + r = a.length → EvT (fun k => slices_Equal_string_string.l0 k a a a.length i) true
  | 0, i, hi => by
    refine EvT.done (fun k => ?_)
    rw [slices_Equal_string_string.l0, if_neg (by omega)]
  | r + 1, i, hi => by
    refine EvT.step (fun k => ?_) (eqd_loop a hl r (i + 1) (by omega))
    rw [slices_Equal_string_string.l0, if_pos (by omega), if_pos (by omega), if_pos (by omega), if_pos (by omega), if_pos rfl, nx i (by omega)]
theorem eqd_ok (a : List ByteArray) (hl : a.length ≤ 1000000) : ∃ K, slices_Equal_string_string.f K a a = some true := by
  refine EvT.one (f := fun k => slices_Equal_string_string.f k a a) (EvT.congr (fun k => ?_) (eqd_loop a hl a.length 0 (by omega)))
  unfold slices_Equal_string_string.f; rw [if_pos rfl]; rfl
theorem strs_reads {w : World} {base : Nat} {v : Value} {xs : List ByteArray} (h : Strs w base v xs) : ∃ A c, v = .slice A xs.length c ∧ xs.length ≤ c ∧ Kd.C Kd.string w A xs.length xs := by
  have h2 : w.ownsRow base 9 1 v xs.length (encs Value.string xs) := by rw [← strs_encs]; exact h
  exact Kd.R_reads (Kd.R_of_own (enc := Value.string) (h1 := fun _ => rfl) (ok := fun _ => True) h2 (fun _ _ => trivial))
def EqP (w : World) (e : Ending) (w' : World) : Prop := e = .returned (.bool true) ∧ ∃ n, w' = w.drewN n
theorem equal_same (b1 b2 : Nat) (v1 v2 : Value) (xs : List ByteArray) (w : World) (h1 : Strs w b1 v1 xs) (h2 : Strs w b2 v2 xs) (hl : xs.length ≤ 1000000) : Calls Try.prog 21 #[v1, v2] w (EqP w) := by
  obtain ⟨A1, c1, rfl, l1, C1⟩ := strs_reads h1
  obtain ⟨A2, c2, rfl, l2, C2⟩ := strs_reads h2
  obtain ⟨K, hK⟩ := eqd_ok xs hl
  refine (slices_Equal_string_string.calls K A1 c1 xs A2 c2 xs true w C1 l1 C2 l2 hK).mono ?_
  rintro e w9 ⟨rfl, hd⟩
  obtain ⟨m, rfl⟩ := hd
  exact ⟨rfl, m, rfl⟩
theorem Dt.lower {w : World} {base base' d : Nat} {v1 v2 : Value} {bs : List ByteArray} {ps : List Wr} {fuse : Int} {dead : Bool} (h : Dt w base d v1 v2 bs ps fuse dead) (hb : base' ≤ base) : Dt w base' d v1 v2 bs ps fuse dead :=
  ⟨h.blk, h.own.lower hb, h.pend.lower hb⟩
theorem Et.lower {w : World} {base base' d : Nat} {v1 v2 : Value} {bs : List ByteArray} {ps : List Wr} {fuse : Int} {dead : Bool} (h : Et w base d v1 v2 bs ps fuse dead) (hb : base' ≤ base) : Et w base' d v1 v2 bs ps fuse dead :=
  ⟨h.blk, h.own.lower hb, h.pend.lower hb⟩
theorem ES_lt {w : World} {base d : Nat} {v1 v2 : Value} {s : DkS} (h : ET w base d v1 v2 s) {k : Nat} (hk : ES d v1 v2 k) : k < w.heap.size := by
  rcases hk with rfl | hk | hk
  · exact h.blk.lt
  · exact h.own.lt hk
  · exact h.pend.lt hk
theorem ES_ge {w : World} {base d : Nat} {v1 v2 : Value} {s : DkS} (h : ET w base d v1 v2 s) (hd : base ≤ d) {k : Nat} (hk : ES d v1 v2 k) : base ≤ k := by
  rcases hk with rfl | hk | hk
  · exact hd
  · exact h.own.ge hk
  · exact h.pend.ge hk
structure AJ (w wr : World) (d g : Nat) (v1 v2 u1 u2 : Value) (s t : DkS) : Prop where
  D : DT wr w.heap.size d v1 v2 s
  E : ET wr w.heap.size g u1 u2 t
  bel : Below w.heap.size w wr
  apart : ∀ q, DS d v1 v2 q → ¬ ES g u1 u2 q
  hd : w.heap.size ≤ d
  hg : w.heap.size ≤ g
section
variable {w wr : World} {d g : Nat} {v1 v2 u1 u2 : Value} {s t : DkS}
theorem AJ.below {w1 : World} (h : AJ w wr d g v1 v2 u1 u2 s t) (hb : Below wr.heap.size wr w1) : AJ w w1 d g v1 v2 u1 u2 s t :=
  ⟨h.D.below hb, h.E.below hb, below_step h.bel hb, h.apart, h.hd, h.hg⟩
theorem AJ.drew (h : AJ w wr d g v1 v2 u1 u2 s t) : AJ w wr.drew d g v1 v2 u1 u2 s t := h.below (Below.refl _ _).drew
theorem AJ.drewN (h : AJ w wr d g v1 v2 u1 u2 s t) (n : Nat) : AJ w (wr.drewN n) d g v1 v2 u1 u2 s t := h.below (below_drewN (Below.refl _ _) n)
theorem AJ.far {x T : Nat} {cs : Array Value} (h : AJ w wr d g v1 v2 u1 u2 s t) (hB : Blk wr x cs T) (h1 : T ≠ 132) (h2 : T ≠ 9) (h3 : T ≠ 135) (h4 : T ≠ 65) (h5 : T ≠ 140) : ¬ DS d v1 v2 x ∧ ¬ ES g u1 u2 x := by
  constructor
  · rintro (rfl | hk | hk)
    · have a := h.D.blk; unfold Blk at a hB; rw [a] at hB; cases hB; exact h1 rfl
    · exact h.D.own.ne hB (Ne.symm h2) hk
    · exact h.D.pend.ne hB (Ne.symm h3) hk
  · rintro (rfl | hk | hk)
    · have a := h.E.blk; unfold Blk at a hB; rw [a] at hB; cases hB; exact h4 rfl
    · exact h.E.own.ne hB (Ne.symm h2) hk
    · exact h.E.pend.ne hB (Ne.symm h5) hk
theorem AJ.mu {s' : DkS} {r e : Ending} {w' : World} (h : AJ w wr d g v1 v2 u1 u2 s t) (hM : MuP w.heap.size d v1 v2 r s' wr e w') :
    e = r ∧ ∃ v2', AJ w w' d g v1 v2' u1 u2 s' t ∧ ∀ x cs, Blk wr x cs 62 → Blk w' x cs 62 := by
  obtain ⟨rfl, v2', hD, hF, hP⟩ := hM
  refine ⟨rfl, v2', ⟨hD, h.E.fr hF (fun q hq hn => h.apart q hn hq), h.bel.trans (Fr.toB hF (fun q hq => DS_ge h.D h.hd hq) h.bel.size), fun q hq hn => ?_, h.hd, h.hg⟩, fun x cs hB => hF.blk hB (h.far hB (by decide) (by decide) (by decide) (by decide) (by decide)).1⟩
  rcases hP q hq with h1 | h1
  · exact h.apart q h1 hn
  · have := ES_lt h.E hn; omega
theorem AJ.ru {t' : DkS} {r e : Ending} {w' : World} (h : AJ w wr d g v1 v2 u1 u2 s t) (hM : RuP w.heap.size g u1 u2 r t' wr e w') :
    e = r ∧ ∃ u2', AJ w w' d g v1 v2 u1 u2' s t' ∧ ∀ x cs, Blk wr x cs 62 → Blk w' x cs 62 := by
  obtain ⟨rfl, u2', hE, hF, hP⟩ := hM
  refine ⟨rfl, u2', ⟨h.D.fr hF (fun q hq hn => h.apart q hq hn), hE, h.bel.trans (Fr.toB hF (fun q hq => ES_ge h.E h.hg hq) h.bel.size), fun q hq hn => ?_, h.hd, h.hg⟩, fun x cs hB => hF.blk hB (h.far hB (by decide) (by decide) (by decide) (by decide) (by decide)).2⟩
  rcases hP q hn with h1 | h1
  · exact h.apart q hq h1
  · have := DS_lt h.D hq; omega
theorem AJ.start {w1 w2 w3 : World} {n : Nat} (h1 : Below w.heap.size w w1) (hD : DT w2 w1.heap.size d v1 (.slice none 0 0) ⟨List.replicate n e64, [], -1, false⟩) (hd : w1.heap.size ≤ d) (hb : Below w1.heap.size w1 w2) (hE : ET w3 w2.heap.size g u1 (.slice none 0 0) ⟨List.replicate n e64, [], -1, false⟩) (hg : w2.heap.size ≤ g) (hb2 : Below w2.heap.size w2 w3) :
    AJ w w3 d g v1 (.slice none 0 0) u1 (.slice none 0 0) ⟨List.replicate n e64, [], -1, false⟩ ⟨List.replicate n e64, [], -1, false⟩ := by
  refine ⟨(hD.lower h1.size).below hb2, hE.lower (Nat.le_trans h1.size hb.size), below_step (below_step h1 hb) hb2, fun q hq hn => ?_, Nat.le_trans h1.size hd, Nat.le_trans (Nat.le_trans h1.size hb.size) hg⟩
  have a := DS_lt hD hq
  have b := ES_ge hE hg hn
  omega
end
end Go.Proofs.Ytckfkbmefdmedaa
namespace Go.Proofs.Ytckfkbmefdmedaa
open Go.RowKit Go.Proofs.Kq Go.Proofs.Ytckfkbmefdmedaa.Q
open Go.Proofs.YtckfkbmefdmedaaW.PrintWords (pw_cell_below Kd Kd.C Kd.C_below)
open Go.Proofs.YtckfkbmefdmedaaW.PrintLast
set_option linter.unusedVariables false
set_option linter.unusedSimpArgs false
def BlP (bs : List ByteArray) (w : World) (e : Ending) (w' : World) : Prop := ∃ v, e = .returned (.tuple #[v, .int .i64 0]) ∧ Strs w' w.heap.size v bs ∧ Below w.heap.size w w'
theorem us_zero (bs : List ByteArray) (f : Int) (k : Nat) (hk : k < bs.length) : usF (⟨bs, [], f, false⟩ : DkS).bs.length (⟨bs, [], f, false⟩ : DkS).dead (k : Int) = 0 := by
  show usF bs.length false (k : Int) = 0
  unfold usF; rw [if_neg (by decide), if_neg (by omega)]
theorem rdF_plain (bs : List ByteArray) (f : Int) (k : Nat) (hk : k < bs.length) : rdF ⟨bs, [], f, false⟩ (k : Int) = (bs[k], 0) := by
  have hu : usF bs.length false (k : Int) = 0 := by
    unfold usF; rw [if_neg (by decide), if_neg (by omega)]
  unfold rdF
  rw [if_pos hu]
  simp [hk]
set_option maxHeartbeats 2000000 in
set_option maxRecDepth 100000 in
theorem blocks_any (base d : Nat) (v1 v2 : Value) (bs : List ByteArray) (f : Int) (w : World) (h : DT w base d v1 v2 ⟨bs, [], f, false⟩) (hl : bs.length ≤ 1000000) :
    Calls Try.prog 83 #[.pointer (some ⟨d, 0, none⟩)] w (BlP bs w) := by
  have HD := hidI h
  clear h
  obtain ⟨i0, hi0, hz0, hz1, hz2⟩ := info_parts info9s
  go_enter Try.func83, Try.ntmps83
  go_wp2_with fail
  with_reducible refine (len_any base d v1 v2 _ w HD.out).mono ?_
  rintro e w1 ⟨rfl, hw1⟩
  subst hw1
  simp only []
  go_wp2_with fail
  go_loopw [4, 10] (fun v i wr => ∃ k : Nat, k ≤ bs.length ∧ i = .int .i64 k ∧ Hid (Strs wr w1.heap.size v (bs.take k) ∧ Below w1.heap.size w1 wr)) (fun _ i _ => bs.length - (intOf i).toNat)
  case atStart => exact ⟨0, Nat.zero_le _, rfl, hidI ⟨Go.Proofs.Kq.Own.nil _ _ _ _ _, Below.refl _ _⟩⟩
  case round =>
    obtain ⟨k, hk, rfl, hI⟩ := hrel
    by_cases hlt : k < bs.length
    · have g1 : decide ((k : Int) < (bs.length : Int)) = true := decide_eq_true (by omega)
      have hlk : (bs.take k).length = k := by rw [List.length_take]; omega
      have HLK := hidI hlk
      obtain ⟨A1, c1, hv, _⟩ := hI.out.1.slice_
      rw [hlk] at hv
      subst hv
      clear hlk
      have hR := read_any base d v1 v2 ⟨bs, [], f, false⟩ (k : Int) wr (HD.out.below hI.out.2) (Nat.zero_le _) (us_zero bs f k hlt)
      rw [rdF_plain bs f k hlt] at hR
      obtain ⟨z, hz⟩ : ∃ z, z = bs[k] := ⟨_, rfl⟩
      rw [← hz] at hR
      have HTK : Hid (bs.take (k + 1) = bs.take k ++ [z]) := hidI (by rw [hz]; exact List.take_succ_eq_append_getElem hlt)
      clear hz
      go_wp2_with fail
      with_reducible refine hR.mono ?_
      rintro e w2 ⟨rfl, hb2⟩
      have hb1 := below_step hI.out.2 hb2
      have hS2 := hI.out.1.below hb2
      have hbs := hb1.size
      have HO : Hid (Strs (w2.alloc (.cells #[.string z] 9)) w1.heap.size (.slice A1 k c1) (bs.take k)) := hidI (hS2.below (below_new (Below.refl w2.heap.size w2) _))
      have HRd : Hid (Reads (w2.alloc (.cells #[.string z] 9)) (w2.heap.size + 1) 1 (some ⟨w2.heap.size, 0, none⟩) 1 [.string z]) := hidI ⟨rfl, fun _ => ⟨_, rfl, Nat.lt_succ_self _, fun j q hj => by
        have h2 := Blk.c (Blk.new' (w := w2) (b := w2.heap.size) (cs := #[.string z]) (T := 9) rfl)
        rw [Kp.add_plain', Nat.zero_add, h2]
        simpa using hj⟩⟩
      have HB1 := hidI hb1
      clear hb1 hb2 hR hS2
      simp only []
      have e1 : Hid ((bs.take k ++ [z]).length = k + 1) := hidI (by rw [List.length_append, HLK.out]; rfl)
      go_wp2_with (at_builtin; refine wpList_append_any _ rfl (.tmp 22) (.tmp 24) 22 rfl w1.heap.size 9 i0 (.string ⟨#[]⟩) 1 16 Try.underlying22 hi0 hz0 hz1 hz2 rfl (by decide) (.slice A1 k c1) (bs.take k).length ((bs.take k).flatMap sl) rfl ?aO (w2.heap.size + 1) (some ⟨w2.heap.size, 0, none⟩) 1 1 [.string z] rfl HRd.out ?a1 ?aM ?aB ?aS ?_; (case aO => exact HO.out); (case a1 => intro q hq; rcases List.mem_singleton.1 hq with rfl; rfl); (case aM => simp only [maxLen]; rw [HLK.out]; omega); (case aB => rw [HLK.out]; omega); (case aS => simp; omega); intro v5 w5 hown hg hat; have hO5 := Go.Proofs.Kq.Own.snoc (l := sl) (p := z) hown; obtain ⟨A5, c5, hv5, _⟩ := hO5.slice_; rw [e1.out] at hv5; subst hv5; clear hown)
      have HF : Hid (Strs w5 w1.heap.size (.slice A5 (k + 1) c5) (bs.take (k + 1)) ∧ Below w1.heap.size w1 w5) := hidI (by
        rw [HTK.out]
        refine ⟨hO5, Below.grown (below_new HB1.out _) hg (below_new HB1.out _).size (fun q hq => HO.out.ge hq)⟩)
      clear hO5 hg hat
      go_wp2_with fail
      go_roundw
      · exact ⟨k + 1, by omega, by simp, HF⟩
      · simp [intOf]; omega
    · have g1 : decide ((k : Int) < (bs.length : Int)) = false := decide_eq_false (by omega)
      obtain rfl : k = bs.length := by omega
      obtain ⟨v, hv⟩ : ∃ v : Value, v = u4 := ⟨_, rfl⟩
      have hfin : Hid (BlP bs w1 (.returned (.tuple #[v, .int .i64 0])) wr) := hidI ⟨v, rfl, by rw [hv]; have := hI.out.1; rwa [List.take_length] at this, hI.out.2⟩
      subst hv
      go_wp2_with fail
      go_ret2
      exact hfin.out
set_option maxHeartbeats 4000000 in
set_option maxRecDepth 100000 in
theorem erase_any (base d : Nat) (v1 v2 : Value) (s : DkS) (n m a : Nat) (bl0 : Nat) (vl : Value) (l : List ByteArray) (w : World) (h : DT w base d v1 v2 s) (hG : Good n m s) (hb : base ≤ w.heap.size) (hL : Strs w bl0 vl l) (hfar : ∀ q, vl.ownBlock = some q → ¬ DS d v1 v2 q) (ha : a ≤ l.length) (hm : m ≤ 1000000) (hl : l.length ≤ 1000000) :
    Calls Try.prog 84 #[.pointer (some ⟨d, 0, none⟩), vl, .int .i64 a] w (MuP base d v1 v2 (.returned (.int .i64 (erL s a false (l.drop a)).1)) (erL s a false (l.drop a)).2 w) := by
  obtain ⟨R, hR⟩ : ∃ R, R = erL s a false (l.drop a) := ⟨_, rfl⟩
  rw [← hR]
  obtain ⟨A, c, rfl, _⟩ := hL.slice_
  have H0 : Hid (R = erL s a false (l.drop a) ∧ DT w base d v1 v2 s ∧ Good n (m + a) s ∧ Fr (DS d v1 v2) w w ∧ (∀ q, DS d v1 v2 q → DS d v1 v2 q ∨ w.heap.size ≤ q) ∧ Strs w bl0 (.slice A l.length c) l ∧ ∀ q, (Value.slice A l.length c).ownBlock = some q → ¬ DS d v1 v2 q) := hidI ⟨hR, h, hG.mono (by omega), Fr.refl _ _, fun q hq => .inl hq, hL, hfar⟩
  clear hR h hG hL hfar
  go_enter Try.func84, Try.ntmps84
  go_wp2_with fail
  go_loopw [7, 8] (fun b i wr => ∃ (k : Nat) (bb : Bool) (s' : DkS) (v2' : Value), a ≤ k ∧ k ≤ l.length ∧ i = .int .i64 k ∧ b = .bool bb ∧ Hid (R = erL s' k bb (l.drop k) ∧ DT wr base d v1 v2' s' ∧ Good n (m + k) s' ∧ Fr (DS d v1 v2) w wr ∧ (∀ q, DS d v1 v2' q → DS d v1 v2 q ∨ w.heap.size ≤ q) ∧ Strs wr bl0 (.slice A l.length c) l ∧ ∀ q, (Value.slice A l.length c).ownBlock = some q → ¬ DS d v1 v2' q)) (fun _ i _ => l.length - (intOf i).toNat)
  case atStart => exact ⟨a, false, s, v2, Nat.le_refl _, ha, rfl, rfl, H0⟩
  case round =>
    obtain ⟨k, bb, s', v2', hak, hk, rfl, rfl, HI⟩ := hrel
    clear H0
    by_cases hlt : k < l.length
    · have g1 : decide ((k : Int) < (l.length : Int)) = true := decide_eq_true (by omega)
      obtain ⟨bq, rfl⟩ : ∃ bq, A = some ⟨bq, 0, none⟩ := by
        rcases HI.out.2.2.2.2.2.1.cases_ with ⟨e, h⟩ | ⟨b, c', e, _⟩
        · rw [h] at hlt; simp at hlt
        · injection e with e1; exact ⟨b, e1⟩
      have q := (str_at HI.out.2.2.2.2.2.1 k hlt).1
      obtain ⟨x, hx⟩ : ∃ x, x = l[k] := ⟨_, rfl⟩
      rw [← hx] at q
      have HX : Hid (l.drop k = x :: l.drop (k + 1)) := hidI (by rw [hx]; exact List.drop_eq_getElem_cons hlt)
      clear hx
      by_cases hxe : x = e64
      · as_aux_lemma =>
          have hR : Hid (R = erL s' (k + 1) bb (l.drop (k + 1))) := hidI (by
            rw [HI.out.1, HX.out]
            conv => lhs; unfold erL
            rw [if_pos hxe])
          have hx1 : (x.toList == e64.toList) = true := by rw [hxe]; simp
          clear hxe
          go_wp2_with fail
          refine start_ (n := 6) (S := fun w' => w'.cell? ⟨bq, k, none⟩ = some (.string x)) (ds := []) #[false, false, false, false, false, false] (by kernel_rfl) rfl rfl (q) (fun hHeld => ?_)
          refine pure_ (i := 0) (N := some 17) (v := ?_) (a' := ?_) #[true, false, false, false, false, false] rfl rfl (by kernel_rfl) (fun _ _ _ h => h) (Or.inl ⟨by rfl, ?_⟩) ?_ ?_
          rotate_left
          · intro w'
            go_simp
            with_reducible rfl
          rotate_left
          · simp only [Act.put, List.setIfInBounds_toArray, List.set_cons_zero, List.set_cons_succ, i64_w, i32_w]
            rfl
          refine pure_ (i := 1) (N := some 18) (v := ?_) (a' := ?_) #[true, true, false, false, false, false] rfl rfl (by kernel_rfl) (fun _ _ _ h => h) (Or.inl ⟨by rfl, ?_⟩) ?_ ?_
          rotate_left
          · intro w'
            go_simp
            with_reducible rfl
          rotate_left
          · simp only [Act.put, List.setIfInBounds_toArray, List.set_cons_zero, List.set_cons_succ, i64_w, i32_w]
            rfl
          refine pure_ (i := 2) (N := some 19) (v := ?_) (a' := ?_) #[true, true, true, false, false, false] rfl rfl (by kernel_rfl) (fun _ _ _ h => h) (Or.inl ⟨by rfl, ?_⟩) ?_ ?_
          rotate_left
          · intro w'
            go_simp
            with_reducible rfl
          rotate_left
          · simp only [Act.put, List.setIfInBounds_toArray, List.set_cons_zero, List.set_cons_succ, i64_w, i32_w]
            rfl
          refine take_ (i := 3) (N := some 20) (v := ?_) (a' := ?_) #[true, true, true, true, false, false] rfl rfl (by kernel_rfl) (fun _ _ _ h => h) (Or.inl ⟨by rfl, ?_⟩) hHeld ?_ ?_
          rotate_left
          · intro w' s0
            go_simp
            with_reducible rfl
          rotate_left
          · simp only [Act.put, List.setIfInBounds_toArray, List.set_cons_zero, List.set_cons_succ, i64_w, i32_w]
            rfl
          refine one_ (i := 4) (N := some 21) #[true, true, true, true, true, false] rfl rfl (by kernel_rfl) (by decide) (fun K hK => ?_)
          refine goes_ Try.func32 (by kernel_rfl) rfl #[] (by rfl) rfl rfl (by simp only [List.map_toArray, List.map_nil]) ?_
          with_reducible refine (empty_any _).mono ?_
          rintro e w2 ⟨rfl, hb2⟩
          refine ⟨_, rfl, ?_⟩
          refine hK.out _ _ (pw_cell_below hb2 hHeld) (fun hHeld => ?_)
          clear hK K
          refine norm_ (a' := ?_) ?_ ?_
          rotate_left
          · show Act.put _ (some 21) _ = _
            simp only [Act.put, List.setIfInBounds_toArray, List.set_cons_zero, List.set_cons_succ, i64_w, i32_w]
            rfl
          refine pure_ (i := 5) (N := some 22) (v := ?_) (a' := ?_) #[true, true, true, true, true, true] rfl rfl (by kernel_rfl) (fun _ _ _ h => h) (Or.inl ⟨by rfl, ?_⟩) ?_ ?_
          rotate_left
          · intro w'
            go_simp
            with_reducible rfl
          rotate_left
          · simp only [Act.put, List.setIfInBounds_toArray, List.set_cons_zero, List.set_cons_succ, i64_w, i32_w]
            rfl
          refine done_ (by kernel_rfl) ?_
          clear hHeld
          have HF : Hid (R = erL s' (k + 1) bb (l.drop (k + 1)) ∧ DT w2 base d v1 v2' s' ∧ Good n (m + (k + 1)) s' ∧ Fr (DS d v1 v2) w w2 ∧ (∀ q, DS d v1 v2' q → DS d v1 v2 q ∨ w.heap.size ≤ q) ∧ Strs w2 bl0 (.slice (some ⟨bq, 0, none⟩) l.length c) l ∧ ∀ q, (Value.slice (some ⟨bq, 0, none⟩) l.length c).ownBlock = some q → ¬ DS d v1 v2' q) := hidI
            ⟨hR.out, HI.out.2.1.below ((Below.refl wr.heap.size wr).drew.trans hb2), HI.out.2.2.1.mono (by omega), HI.out.2.2.2.1.drew.below hb2, HI.out.2.2.2.2.1, HI.out.2.2.2.2.2.1.below ((Below.refl wr.heap.size wr).drew.trans hb2), HI.out.2.2.2.2.2.2⟩
          clear hb2
          go_wp2_with fail
          go_roundw
          · exact ⟨k + 1, bb, s', v2', by omega, by omega, by simp, rfl, HF⟩
          · simp [intOf]; omega
      · have hx1 : (x.toList == e64.toList) = false := by
          rw [beq_eq_false_iff_ne]; intro h; apply hxe; rw [ByteArray.toList_eq, ByteArray.toList_eq] at h; apply ByteArray.ext; exact Array.ext' h
        have hR : Hid (R = if (wrS s' k e64).1 = 0 then erL (wrS s' k e64).2 (k + 1) true (l.drop (k + 1)) else wrS s' k e64) := hidI (by
          rw [HI.out.1, HX.out]
          conv => lhs; unfold erL
          rw [if_neg hxe])
        clear hxe
        have hG' := wrS_good HI.out.2.2.1 (k : Int) e64
        by_cases hr : (wrS s' k e64).1 = 0
        · as_aux_lemma =>
            have hR2 : Hid (R = erL (wrS s' k e64).2 (k + 1) true (l.drop (k + 1))) := hidI (by rw [hR.out, if_pos hr])
            obtain ⟨s3, hs3⟩ : ∃ s3, s3 = (wrS s' k e64).2 := ⟨_, rfl⟩
            rw [← hs3] at hR2 hG'
            have HG := hidI hG'
            have HS3 := hidI hs3
            have HR0 := hidI hr
            clear hs3 hG' hr
            go_wp2_with fail
            refine start_ (n := 6) (S := fun w' => w'.cell? ⟨bq, k, none⟩ = some (.string x)) (ds := []) #[false, false, false, false, false, false] (by kernel_rfl) rfl rfl (q) (fun hHeld => ?_)
            refine pure_ (i := 0) (N := some 17) (v := ?_) (a' := ?_) #[true, false, false, false, false, false] rfl rfl (by kernel_rfl) (fun _ _ _ h => h) (Or.inl ⟨by rfl, ?_⟩) ?_ ?_
            rotate_left
            · intro w'
              go_simp
              with_reducible rfl
            rotate_left
            · simp only [Act.put, List.setIfInBounds_toArray, List.set_cons_zero, List.set_cons_succ, i64_w, i32_w]
              rfl
            refine pure_ (i := 1) (N := some 18) (v := ?_) (a' := ?_) #[true, true, false, false, false, false] rfl rfl (by kernel_rfl) (fun _ _ _ h => h) (Or.inl ⟨by rfl, ?_⟩) ?_ ?_
            rotate_left
            · intro w'
              go_simp
              with_reducible rfl
            rotate_left
            · simp only [Act.put, List.setIfInBounds_toArray, List.set_cons_zero, List.set_cons_succ, i64_w, i32_w]
              rfl
            refine pure_ (i := 2) (N := some 19) (v := ?_) (a' := ?_) #[true, true, true, false, false, false] rfl rfl (by kernel_rfl) (fun _ _ _ h => h) (Or.inl ⟨by rfl, ?_⟩) ?_ ?_
            rotate_left
            · intro w'
              go_simp
              with_reducible rfl
            rotate_left
            · simp only [Act.put, List.setIfInBounds_toArray, List.set_cons_zero, List.set_cons_succ, i64_w, i32_w]
              rfl
            refine take_ (i := 3) (N := some 20) (v := ?_) (a' := ?_) #[true, true, true, true, false, false] rfl rfl (by kernel_rfl) (fun _ _ _ h => h) (Or.inl ⟨by rfl, ?_⟩) hHeld ?_ ?_
            rotate_left
            · intro w' s0
              go_simp
              with_reducible rfl
            rotate_left
            · simp only [Act.put, List.setIfInBounds_toArray, List.set_cons_zero, List.set_cons_succ, i64_w, i32_w]
              rfl
            refine one_ (i := 4) (N := some 21) #[true, true, true, true, true, false] rfl rfl (by kernel_rfl) (by decide) (fun K hK => ?_)
            refine goes_ Try.func32 (by kernel_rfl) rfl #[] (by rfl) rfl rfl (by simp only [List.map_toArray, List.map_nil]) ?_
            with_reducible refine (empty_any _).mono ?_
            rintro e w2 ⟨rfl, hb2⟩
            refine ⟨_, rfl, ?_⟩
            refine hK.out _ _ (pw_cell_below hb2 hHeld) (fun hHeld => ?_)
            clear hK K
            refine norm_ (a' := ?_) ?_ ?_
            rotate_left
            · show Act.put _ (some 21) _ = _
              simp only [Act.put, List.setIfInBounds_toArray, List.set_cons_zero, List.set_cons_succ, i64_w, i32_w]
              rfl
            refine pure_ (i := 5) (N := some 22) (v := ?_) (a' := ?_) #[true, true, true, true, true, true] rfl rfl (by kernel_rfl) (fun _ _ _ h => h) (Or.inl ⟨by rfl, ?_⟩) ?_ ?_
            rotate_left
            · intro w'
              go_simp
              with_reducible rfl
            rotate_left
            · simp only [Act.put, List.setIfInBounds_toArray, List.set_cons_zero, List.set_cons_succ, i64_w, i32_w]
              rfl
            refine done_ (by kernel_rfl) ?_
            clear hHeld
            have HI2 : Hid (DT w2 base d v1 v2' s' ∧ Fr (DS d v1 v2) w w2 ∧ Strs w2 bl0 (.slice (some ⟨bq, 0, none⟩) l.length c) l) := hidI ⟨HI.out.2.1.below ((Below.refl wr.heap.size wr).drew.trans hb2), HI.out.2.2.2.1.drew.below hb2, HI.out.2.2.2.2.2.1.below ((Below.refl wr.heap.size wr).drew.trans hb2)⟩
            clear hb2
            go_wp2_with fail
            with_reducible refine (empty_any _).mono ?_
            rintro e w3 ⟨rfl, hb3⟩
            have HI3 : Hid (DT w3 base d v1 v2' s' ∧ Fr (DS d v1 v2) w w3 ∧ Strs w3 bl0 (.slice (some ⟨bq, 0, none⟩) l.length c) l) := hidI ⟨HI2.out.1.below hb3, HI2.out.2.1.below hb3, HI2.out.2.2.below hb3⟩
            have hW := write_any base d v1 v2' s' (k : Int) e64 w3 HI3.out.1 (Nat.le_trans hb HI3.out.2.1.size) HI.out.2.2.1.fuse (by have := HI.out.2.2.1.few; omega)
            rw [HR0.out, ← HS3.out] at hW
            clear hb3
            simp only []
            go_wp2_with fail
            with_reducible refine hW.mono ?_
            rintro e w4 ⟨rfl, v3, hD4, hF4, hP4⟩
            have HF : Hid (R = erL s3 (k + 1) true (l.drop (k + 1)) ∧ DT w4 base d v1 v3 s3 ∧ Good n (m + (k + 1)) s3 ∧ Fr (DS d v1 v2) w w4 ∧ (∀ q, DS d v1 v3 q → DS d v1 v2 q ∨ w.heap.size ≤ q) ∧ Strs w4 bl0 (.slice (some ⟨bq, 0, none⟩) l.length c) l ∧ ∀ q, (Value.slice (some ⟨bq, 0, none⟩) l.length c).ownBlock = some q → ¬ DS d v1 v3 q) := hidI
              ⟨hR2.out, hD4, HG.out, HI3.out.2.1.trans hF4 (fun q hq h1 => by
                rcases HI.out.2.2.2.2.1 q h1 with h2 | h2
                · exact h2
                · omega), fun q hq => by
                rcases hP4 q hq with h1 | h1
                · exact HI.out.2.2.2.2.1 q h1
                · exact .inr (Nat.le_trans HI3.out.2.1.size h1), HI3.out.2.2.fr hF4 (fun q hq => HI.out.2.2.2.2.2.2 q hq), fun q hq h1 => by
                rcases hP4 q h1 with h2 | h2
                · exact HI.out.2.2.2.2.2.2 q hq h2
                · have := HI3.out.2.2.lt hq; omega⟩
            clear hD4 hF4 hP4 hW
            simp only []
            go_wp2_with fail
            go_roundw
            · exact ⟨k + 1, true, s3, v3, by omega, by omega, by simp, rfl, HF⟩
            · simp [intOf]; omega
        · as_aux_lemma =>
            have hR2 : Hid (R = wrS s' k e64) := hidI (by rw [hR.out, if_neg hr])
            obtain ⟨r, hr1⟩ : ∃ r, r = (wrS s' k e64).1 := ⟨_, rfl⟩
            have hrne : (r != 0) = true := by rw [hr1]; simpa using hr
            have HR1 := hidI hr1
            clear hr1 hG' hr
            go_wp2_with fail
            refine start_ (n := 6) (S := fun w' => w'.cell? ⟨bq, k, none⟩ = some (.string x)) (ds := []) #[false, false, false, false, false, false] (by kernel_rfl) rfl rfl (q) (fun hHeld => ?_)
            refine pure_ (i := 0) (N := some 17) (v := ?_) (a' := ?_) #[true, false, false, false, false, false] rfl rfl (by kernel_rfl) (fun _ _ _ h => h) (Or.inl ⟨by rfl, ?_⟩) ?_ ?_
            rotate_left
            · intro w'
              go_simp
              with_reducible rfl
            rotate_left
            · simp only [Act.put, List.setIfInBounds_toArray, List.set_cons_zero, List.set_cons_succ, i64_w, i32_w]
              rfl
            refine pure_ (i := 1) (N := some 18) (v := ?_) (a' := ?_) #[true, true, false, false, false, false] rfl rfl (by kernel_rfl) (fun _ _ _ h => h) (Or.inl ⟨by rfl, ?_⟩) ?_ ?_
            rotate_left
            · intro w'
              go_simp
              with_reducible rfl
            rotate_left
            · simp only [Act.put, List.setIfInBounds_toArray, List.set_cons_zero, List.set_cons_succ, i64_w, i32_w]
              rfl
            refine pure_ (i := 2) (N := some 19) (v := ?_) (a' := ?_) #[true, true, true, false, false, false] rfl rfl (by kernel_rfl) (fun _ _ _ h => h) (Or.inl ⟨by rfl, ?_⟩) ?_ ?_
            rotate_left
            · intro w'
              go_simp
              with_reducible rfl
            rotate_left
            · simp only [Act.put, List.setIfInBounds_toArray, List.set_cons_zero, List.set_cons_succ, i64_w, i32_w]
              rfl
            refine take_ (i := 3) (N := some 20) (v := ?_) (a' := ?_) #[true, true, true, true, false, false] rfl rfl (by kernel_rfl) (fun _ _ _ h => h) (Or.inl ⟨by rfl, ?_⟩) hHeld ?_ ?_
            rotate_left
            · intro w' s0
              go_simp
              with_reducible rfl
            rotate_left
            · simp only [Act.put, List.setIfInBounds_toArray, List.set_cons_zero, List.set_cons_succ, i64_w, i32_w]
              rfl
            refine one_ (i := 4) (N := some 21) #[true, true, true, true, true, false] rfl rfl (by kernel_rfl) (by decide) (fun K hK => ?_)
            refine goes_ Try.func32 (by kernel_rfl) rfl #[] (by rfl) rfl rfl (by simp only [List.map_toArray, List.map_nil]) ?_
            with_reducible refine (empty_any _).mono ?_
            rintro e w2 ⟨rfl, hb2⟩
            refine ⟨_, rfl, ?_⟩
            refine hK.out _ _ (pw_cell_below hb2 hHeld) (fun hHeld => ?_)
            clear hK K
            refine norm_ (a' := ?_) ?_ ?_
            rotate_left
            · show Act.put _ (some 21) _ = _
              simp only [Act.put, List.setIfInBounds_toArray, List.set_cons_zero, List.set_cons_succ, i64_w, i32_w]
              rfl
            refine pure_ (i := 5) (N := some 22) (v := ?_) (a' := ?_) #[true, true, true, true, true, true] rfl rfl (by kernel_rfl) (fun _ _ _ h => h) (Or.inl ⟨by rfl, ?_⟩) ?_ ?_
            rotate_left
            · intro w'
              go_simp
              with_reducible rfl
            rotate_left
            · simp only [Act.put, List.setIfInBounds_toArray, List.set_cons_zero, List.set_cons_succ, i64_w, i32_w]
              rfl
            refine done_ (by kernel_rfl) ?_
            clear hHeld
            have HI2 : Hid (DT w2 base d v1 v2' s' ∧ Fr (DS d v1 v2) w w2 ∧ Strs w2 bl0 (.slice (some ⟨bq, 0, none⟩) l.length c) l) := hidI ⟨HI.out.2.1.below ((Below.refl wr.heap.size wr).drew.trans hb2), HI.out.2.2.2.1.drew.below hb2, HI.out.2.2.2.2.2.1.below ((Below.refl wr.heap.size wr).drew.trans hb2)⟩
            clear hb2
            go_wp2_with fail
            with_reducible refine (empty_any _).mono ?_
            rintro e w3 ⟨rfl, hb3⟩
            have HI3 : Hid (DT w3 base d v1 v2' s' ∧ Fr (DS d v1 v2) w w3) := hidI ⟨HI2.out.1.below hb3, HI2.out.2.1.below hb3⟩
            have hW := write_any base d v1 v2' s' (k : Int) e64 w3 HI3.out.1 (Nat.le_trans hb HI3.out.2.size) HI.out.2.2.1.fuse (by have := HI.out.2.2.1.few; omega)
            rw [← HR1.out] at hW
            clear hb3
            simp only []
            go_wp2_with fail
            with_reducible refine hW.mono ?_
            rintro e w4 ⟨rfl, v3, hD4, hF4, hP4⟩
            have hfin : Hid (MuP base d v1 v2 (.returned (.int .i64 R.1)) R.2 w (.returned (.int .i64 r)) w4) := hidI
              ⟨by rw [hR2.out, HR1.out], v3, by rw [hR2.out]; exact hD4, HI3.out.2.trans hF4 (fun q hq h1 => by
                rcases HI.out.2.2.2.2.1 q h1 with h2 | h2
                · exact h2
                · omega), fun q hq => by
                rcases hP4 q hq with h1 | h1
                · exact HI.out.2.2.2.2.1 q h1
                · exact .inr (Nat.le_trans HI3.out.2.size h1)⟩
            clear hD4 hF4 hP4 hW
            simp only []
            go_wp2_with fail
            go_ret
            exact hfin.out
    · have g1 : decide ((k : Int) < (l.length : Int)) = false := decide_eq_false (by omega)
      obtain rfl : k = l.length := by omega
      have hR : Hid (R = if bb = true then syS s' else (0, s')) := hidI (by
        rw [HI.out.1, List.drop_length]; rfl)
      cases bb
      · have hfin : Hid (MuP base d v1 v2 (.returned (.int .i64 R.1)) R.2 w (.returned (.int .i64 0)) wr) := hidI
          ⟨by rw [hR.out]; rfl, v2', by rw [hR.out]; exact HI.out.2.1, HI.out.2.2.2.1, HI.out.2.2.2.2.1⟩
        go_wp2_with fail
        go_ret
        exact hfin.out
      · have hS := sync_any base d v1 v2' s' wr HI.out.2.1 HI.out.2.2.1.fuse (by have := HI.out.2.2.1.few; omega) (by rw [HI.out.2.2.1.len]; exact HI.out.2.2.1.ins)
        obtain ⟨r, hr1⟩ : ∃ r, r = (syS s').1 := ⟨_, rfl⟩
        rw [← hr1] at hS
        have HR1 := hidI hr1
        clear hr1
        go_wp2_with fail
        with_reducible refine hS.mono ?_
        rintro e w4 ⟨rfl, v3, hD4, hF4, hP4⟩
        have hfin : Hid (MuP base d v1 v2 (.returned (.int .i64 R.1)) R.2 w (.returned (.int .i64 r)) w4) := hidI
          ⟨by rw [hR.out, HR1.out]; rfl, v3, by rw [hR.out]; exact hD4, HI.out.2.2.2.1.trans hF4 (fun q hq h1 => by
            rcases HI.out.2.2.2.2.1 q h1 with h2 | h2
            · exact h2
            · omega), fun q hq => by
            rcases hP4 q hq with h1 | h1
            · exact HI.out.2.2.2.2.1 q h1
            · exact .inr (Nat.le_trans HI.out.2.2.2.1.size h1)⟩
        clear hD4 hF4 hP4 hS
        simp only []
        go_wp2_with fail
        go_ret
        exact hfin.out
end Go.Proofs.Ytckfkbmefdmedaa
namespace Go.Proofs.Ytckfkbmefdmedaa
open Go.RowKit Go.Proofs.Kq Go.Proofs.Ytckfkbmefdmedaa.Q
open Go.Proofs.YtckfkbmefdmedaaW.PrintWords (pw_cell_below Kd Kd.C Kd.C_below Kd.R Kd.own_of_R)
open Go.Proofs.YtckfkbmefdmedaaW.PrintLast
set_option linter.unusedVariables false
set_option linter.unusedSimpArgs false
theorem strs_of_R {w : World} {base : Nat} {v : Value} {xs : List ByteArray} {ok : Nat → Prop} (h : Kd.R Kd.string 9 w base ok v xs) : Strs w base v xs := by
  have h2 := Kd.own_of_R (enc := Value.string) (h1 := fun _ => rfl) h
  unfold Strs Go.Proofs.Kq.Own
  rw [strs_encs]
  exact h2
def JB (w : World) (j d at_ cnt : Nat) : Prop := Blk w j #[.pointer (some ⟨d, 0, none⟩), .int .i64 at_, .int .i64 cnt] 144
def OpP (base d : Nat) (v1 v2 : Value) (R : List ByteArray) (a : Nat) (r : Int × DkS) (w : World) (e : Ending) (w' : World) : Prop :=
  ∃ v2' pj vr, e = .returned (.tuple #[pj, vr, .int .i64 r.1]) ∧ DT w' base d v1 v2' r.2 ∧ Fr (DS d v1 v2) w w' ∧ (∀ q, DS d v1 v2' q → DS d v1 v2 q ∨ w.heap.size ≤ q) ∧
    (r.1 = 0 → ∃ j, pj = .pointer (some ⟨j, 0, none⟩) ∧ w.heap.size ≤ j ∧ JB w' j d a R.length ∧ Strs w' w.heap.size vr R ∧ ∀ q, vr.ownBlock = some q → ¬ DS d v1 v2' q)
set_option maxHeartbeats 4000000 in
set_option maxRecDepth 100000 in
theorem open_any (base d : Nat) (v1 v2 : Value) (bs R : List ByteArray) (f : Int) (a m : Nat) (w : World) (h : DT w base d v1 v2 ⟨bs, [], f, false⟩) (hG : Good bs.length m ⟨bs, [], f, false⟩) (hb : base ≤ w.heap.size) (hl : bs.length ≤ 65536) (hm : m ≤ 1000000) (hR : RecsEnd bs R 0 0 a) :
    Calls Try.prog 43 #[.pointer (some ⟨d, 0, none⟩)] w (OpP base d v1 v2 R a (erL ⟨bs, [], f, false⟩ a false (bs.drop a)) w) := by
  obtain ⟨Z, hZ⟩ : ∃ Z, Z = erL ⟨bs, [], f, false⟩ a false (bs.drop a) := ⟨_, rfl⟩
  rw [← hZ]
  have HZ := hidI hZ
  have HD := hidI h
  have HR := hidI hR
  have HG := hidI hG
  have hle := hR.1.le (Nat.zero_le _)
  clear h hR hG hZ
  have hc0 := HD.out.blk.c; have hl0 := HD.out.blk.lt; have hf0 := HD.out.blk.f
  go_enter Try.func43, Try.ntmps43
  go_wp2_with fail
  with_reducible refine (dead_any base d v1 v2 _ w HD.out).mono ?_
  rintro e w1 ⟨rfl, hw1⟩
  subst hw1
  clear hc0 hl0 hf0
  simp only []
  go_wp2_with fail
  with_reducible refine (blocks_any base d v1 v2 bs f w1 HD.out (by omega)).mono ?_
  rintro e w2 ⟨vb, rfl, hS2, hb2⟩
  have HS2 := hidI hS2
  have HB2 := hidI hb2
  obtain ⟨A2, c2, rfl, hc2, hC2⟩ := strs_reads hS2
  obtain ⟨K, hK⟩ := EvT.one (jrec_ok (by omega) HR.out)
  have hRec := journal_Records.calls K A2 c2 bs R (a : Int) w2 hC2 hc2 hK
  clear hS2 hb2 hK hC2 hc2
  simp only []
  go_wp2_with fail
  with_reducible refine hRec.mono ?_
  rintro e w3 ⟨vr, rfl, hS3, hb3⟩
  have HS3 := hidI (strs_of_R hS3)
  have HB3 := hidI hb3
  have HD3 : Hid (DT w3 base d v1 v2 ⟨bs, [], f, false⟩) := hidI ((HD.out.below HB2.out).below hb3)
  have hE := erase_any base d v1 v2 ⟨bs, [], f, false⟩ bs.length m a w1.heap.size (.slice A2 bs.length c2) bs w3 HD3.out HG.out (Nat.le_trans hb (Nat.le_trans HB2.out.size hb3.size)) (HS2.out.below hb3)
    (fun q hq hn => by have h1 := HS2.out.ge hq; have h2 := DS_lt HD.out hn; omega) hle.2 hm (by omega)
  rw [← HZ.out] at hE
  obtain ⟨Ar, cr, hvr, _⟩ := HS3.out.slice_
  subst hvr
  obtain ⟨ze, zs⟩ := Z
  clear hS3 hb3 hRec
  simp only []
  go_wp2_with fail
  with_reducible refine hE.mono ?_
  rintro e w4 ⟨rfl, v3, hD4, hF4, hP4⟩
  have HS4 : Hid (Strs w4 w2.heap.size (.slice Ar R.length cr) R) := hidI (HS3.out.fr hF4 (fun q hq hn => by have h1 := HS3.out.ge hq; have h2 := DS_lt HD.out hn; have := HB2.out.size; omega))
  have HF4 : Hid (Fr (DS d v1 v2) w1 w4) := hidI (((Fr.of_below HB2.out).below HB3.out).trans hF4 (fun q hq h => h))
  have HD4 := hidI hD4
  have HP4 : Hid (∀ q, DS d v1 v3 q → DS d v1 v2 q ∨ w3.heap.size ≤ q) := hidI hP4
  have hs3 := Nat.le_trans HB2.out.size HB3.out.size
  have HP1 : Hid (∀ q, DS d v1 v3 q → DS d v1 v2 q ∨ w1.heap.size ≤ q) := hidI (fun q hq => by
    rcases HP4.out q hq with h1 | h1
    · exact .inl h1
    · exact .inr (by omega))
  clear hD4 hF4 hP4 hE
  by_cases hz : ze = 0
  · subst hz
    simp only []
    go_wp2_with fail
    have hfin : Hid (OpP base d v1 v2 R a (0, zs) w1 (.returned (.tuple #[.pointer (some ⟨w4.heap.size, 0, none⟩), .slice Ar R.length cr, .int .i64 0])) (w4.alloc (.cells #[.pointer (some ⟨d, 0, none⟩), .int .i64 a, .int .i64 R.length] 144))) := hidI
      ⟨v3, _, _, rfl, HD4.out.below (below_new (Below.refl _ _) _), HF4.out.alloc _, HP1.out, fun _ => ⟨_, rfl, HF4.out.size, Blk.new' rfl, (HS4.out.below (below_new (Below.refl _ _) _)).lower (Nat.le_trans HB2.out.size (Nat.le_refl _)), fun q hq hn => by
        rcases HP4.out q hn with h1 | h1
        · have h2 := HS3.out.ge hq; have h3 := DS_lt HD.out h1; have := HB2.out.size; omega
        · have h2 := HS3.out.lt hq; omega⟩⟩
    go_ret3
    exact hfin.out
  · have hz1 : (ze != 0) = true := by simpa using hz
    have hfin : Hid (OpP base d v1 v2 R a (ze, zs) w1 (.returned (.tuple #[.pointer none, .slice none 0 0, .int .i64 ze])) w4) := hidI
      ⟨v3, _, _, rfl, HD4.out, HF4.out, HP1.out, fun h0 => absurd h0 hz⟩
    clear hz
    simp only []
    go_wp2_with fail
    go_ret3
    exact hfin.out
theorem jlen_any (j d at_ cnt : Nat) (w : World) (h : JB w j d at_ cnt) (hc : cnt ≤ 1000000000) : Calls Try.prog 47 #[.pointer (some ⟨j, 0, none⟩)] w fun e w' => e = .returned (.int .i64 cnt) ∧ w' = w := by
  unfold JB at h
  have c0 := h.c; have l0 := h.lt; have f0 := h.f
  clear h
  go_enter Try.func47, Try.ntmps47
  go_wp2_with fail
  go_ret
  exact ⟨rfl, rfl⟩
end Go.Proofs.Ytckfkbmefdmedaa
namespace Go.Proofs.Ytckfkbmefdmedaa
open Go.RowKit Go.Proofs.Kq Go.Proofs.Ytckfkbmefdmedaa.Q
open Go.Proofs.YtckfkbmefdmedaaW.PrintWords (pw_cell_below Kd Kd.C Kd.C_below Kd.R Kd.own_of_R)
open Go.Proofs.YtckfkbmefdmedaaW.PrintLast
set_option linter.unusedVariables false
set_option linter.unusedSimpArgs false
def KB (w : World) (k g : Nat) (vr : Value) (a : Nat) : Prop := Blk w k #[.pointer (some ⟨g, 0, none⟩), vr, .int .i64 a] 77
def RoP (base g : Nat) (ua ub : Value) (R : List ByteArray) (a : Nat) (r : Int × DkS) (w : World) (e : Ending) (w' : World) : Prop :=
  ∃ ub' pj, e = .returned (.tuple #[pj, .int .i64 r.1]) ∧ ET w' base g ua ub' r.2 ∧ Fr (ES g ua ub) w w' ∧ (∀ q, ES g ua ub' q → ES g ua ub q ∨ w.heap.size ≤ q) ∧
    (r.1 = 0 → ∃ k vr, pj = .pointer (some ⟨k, 0, none⟩) ∧ w.heap.size ≤ k ∧ KB w' k g vr a ∧ Strs w' w.heap.size vr R ∧ ∀ q, vr.ownBlock = some q → ¬ ES g ua ub' q)
set_option maxHeartbeats 8000000 in
set_option maxRecDepth 100000 in
theorem ropen_any (base g : Nat) (ua ub : Value) (bs R : List ByteArray) (f : Int) (a m : Nat) (w : World) (h : ET w base g ua ub ⟨bs, [], f, false⟩) (hG : Good bs.length m ⟨bs, [], f, false⟩) (hb : base ≤ w.heap.size) (hl : bs.length ≤ 65536) (hm : m ≤ 1000000) (hR : RecsEnd bs R 0 0 a) :
    Calls Try.prog 44 #[.pointer (some ⟨g, 0, none⟩)] w (RoP base g ua ub R a (erL ⟨bs, [], f, false⟩ a false (bs.drop a)) w) := by
  obtain ⟨Z, hZ⟩ : ∃ Z, Z = erL ⟨bs, [], f, false⟩ a false (bs.drop a) := ⟨_, rfl⟩
  rw [← hZ]
  have HZ := hidI hZ
  have HE := hidI h
  have HR := hidI hR
  have HG := hidI hG
  have hle := hR.1.le (Nat.zero_le _)
  obtain ⟨A1, c1, rfl, _⟩ := h.own.slice_
  clear h hR hG hZ
  obtain ⟨i0, hi0, hz0, hz1, hz2⟩ := info_parts info9s
  have hc0 : w.cell? ⟨g, 3, none⟩ = some (.bool false) := HE.out.blk.c 3
  have hl0 := HE.out.blk.lt; have hf0 := HE.out.blk.f
  go_enter Try.func44, Try.ntmps44
  go_wp2_with fail
  clear hc0 hl0 hf0
  go_loopw [4, 5] (fun v i wr => ∃ k : Nat, k ≤ bs.length ∧ i = .int .i64 k ∧ Hid (Strs wr w.heap.size v (bs.take k) ∧ Below w.heap.size w wr)) (fun _ i _ => bs.length - (intOf i).toNat)
  case atStart => exact ⟨0, Nat.zero_le _, rfl, hidI ⟨Go.Proofs.Kq.Own.nil _ _ _ _ _, Below.refl _ _⟩⟩
  case round =>
    obtain ⟨k, hk, rfl, hI⟩ := hrel
    have HE1 : Hid (ET wr base g (.slice A1 bs.length c1) ub ⟨bs, [], f, false⟩) := hidI (HE.out.below hI.out.2)
    have y0 : wr.cell? ⟨g, 0, none⟩ = some (.slice A1 bs.length c1) := HE1.out.blk.c 0
    by_cases hlt : k < bs.length
    · have g1 : decide ((k : Int) < (bs.length : Int)) = true := decide_eq_true (by omega)
      have hlk : (bs.take k).length = k := by rw [List.length_take]; omega
      have HLK := hidI hlk
      obtain ⟨A2, c2, hv, _⟩ := hI.out.1.slice_
      rw [hlk] at hv
      subst hv
      clear hlk
      have hRd := rread_any base g (.slice A1 bs.length c1) ub ⟨bs, [], f, false⟩ (k : Int) wr HE1.out (Nat.zero_le _)
      rw [rdF_plain bs f k hlt] at hRd
      obtain ⟨z, hz⟩ : ∃ z, z = bs[k] := ⟨_, rfl⟩
      rw [← hz] at hRd
      have HTK : Hid (bs.take (k + 1) = bs.take k ++ [z]) := hidI (by rw [hz]; exact List.take_succ_eq_append_getElem hlt)
      clear hz
      go_wp2_with fail
      with_reducible refine hRd.mono ?_
      rintro e w2 ⟨rfl, hw2⟩
      subst hw2
      have hbs := hI.out.2.size
      have HO : Hid (Strs (w2.alloc (.cells #[.string z] 9)) w.heap.size (.slice A2 k c2) (bs.take k)) := hidI (hI.out.1.below (below_new (Below.refl w2.heap.size w2) _))
      have HRd : Hid (Reads (w2.alloc (.cells #[.string z] 9)) (w2.heap.size + 1) 1 (some ⟨w2.heap.size, 0, none⟩) 1 [.string z]) := hidI ⟨rfl, fun _ => ⟨_, rfl, Nat.lt_succ_self _, fun j q hj => by
        have h2 := Blk.c (Blk.new' (w := w2) (b := w2.heap.size) (cs := #[.string z]) (T := 9) rfl)
        rw [Kp.add_plain', Nat.zero_add, h2]
        simpa using hj⟩⟩
      clear hRd y0
      simp only []
      have e1 : Hid ((bs.take k ++ [z]).length = k + 1) := hidI (by rw [List.length_append, HLK.out]; rfl)
      go_wp2_with (at_builtin; refine wpList_append_any _ rfl (.tmp 34) (.tmp 36) 22 rfl w.heap.size 9 i0 (.string ⟨#[]⟩) 1 16 Try.underlying22 hi0 hz0 hz1 hz2 rfl (by decide) (.slice A2 k c2) (bs.take k).length ((bs.take k).flatMap sl) rfl ?aO (w2.heap.size + 1) (some ⟨w2.heap.size, 0, none⟩) 1 1 [.string z] rfl HRd.out ?a1 ?aM ?aB ?aS ?_; (case aO => exact HO.out); (case a1 => intro q hq; rcases List.mem_singleton.1 hq with rfl; rfl); (case aM => simp only [maxLen]; rw [HLK.out]; omega); (case aB => rw [HLK.out]; omega); (case aS => simp; omega); intro v5 w5 hown hg hat; have hO5 := Go.Proofs.Kq.Own.snoc (l := sl) (p := z) hown; obtain ⟨A5, c5, hv5, _⟩ := hO5.slice_; rw [e1.out] at hv5; subst hv5; clear hown)
      have HF : Hid (Strs w5 w.heap.size (.slice A5 (k + 1) c5) (bs.take (k + 1)) ∧ Below w.heap.size w w5) := hidI (by
        rw [HTK.out]
        refine ⟨hO5, Below.grown (below_new hI.out.2 _) hg (below_new hI.out.2 _).size (fun q hq => HO.out.ge hq)⟩)
      clear hO5 hg hat
      go_wp2_with fail
      go_roundw
      · exact ⟨k + 1, by omega, by simp, HF⟩
      · simp [intOf]; omega
    · have g1 : decide ((k : Int) < (bs.length : Int)) = false := decide_eq_false (by omega)
      obtain rfl : k = bs.length := by omega
      obtain ⟨A2, c2, hv, _⟩ := hI.out.1.slice_
      rw [List.take_length] at hv
      subst hv
      have HS2 : Hid (Strs wr w.heap.size (.slice A2 bs.length c2) bs) := hidI (by have := hI.out.1; rwa [List.take_length] at this)
      have HB2 : Hid (Below w.heap.size w wr) := hidI hI.out.2
      go_wp2_with fail
      obtain ⟨A2', c2', e2, hc2, hC2⟩ := strs_reads HS2.out
      injection e2 with e3 e4 e5
      subst e3; subst e5
      obtain ⟨K, hK⟩ := EvT.one (rrec_ok (by omega) HR.out)
      have hRec := soukref05_Records.calls K A2 c2 bs R (a : Int) wr hC2 hc2 hK
      clear hK hC2 hc2 e4 hI y0
      with_reducible refine hRec.mono ?_
      rintro e w3 ⟨vr, rfl, hS3, hb3⟩
      have HS3 := hidI (strs_of_R hS3)
      have HB3 := hidI hb3
      obtain ⟨Ar, cr, hvr, _⟩ := HS3.out.slice_
      subst hvr
      clear hS3 hb3 hRec
      simp only []
      go_wp2_with fail
      with_reducible refine (rempty_any w3).mono ?_
      rintro e w4 ⟨rfl, hw4⟩
      subst hw4
      have hsz4 := Nat.le_trans HB2.out.size HB3.out.size
      have H0 : Hid (Z = erL ⟨bs, [], f, false⟩ a false (bs.drop a) ∧ ET w4 base g (.slice A1 bs.length c1) ub ⟨bs, [], f, false⟩ ∧ Good bs.length (m + a) ⟨bs, [], f, false⟩ ∧ Fr (ES g (.slice A1 bs.length c1) ub) w w4 ∧ (∀ q, ES g (.slice A1 bs.length c1) ub q → ES g (.slice A1 bs.length c1) ub q ∨ w4.heap.size ≤ q) ∧ Strs w4 w.heap.size (.slice A2 bs.length c2) bs ∧ Strs w4 w.heap.size (.slice Ar R.length cr) R) := hidI
        ⟨HZ.out, HE1.out.below HB3.out, HG.out.mono (by omega), (Fr.of_below HB2.out).below HB3.out, fun q hq => .inl hq, HS2.out.below HB3.out, HS3.out.lower HB2.out.size⟩
      have HN2 : Hid (∀ q, (Value.slice A2 bs.length c2).ownBlock = some q → w.heap.size ≤ q ∧ q < w4.heap.size) := hidI (fun q hq => ⟨HS2.out.ge hq, (HS2.out.below HB3.out).lt hq⟩)
      have HNr : Hid (∀ q, (Value.slice Ar R.length cr).ownBlock = some q → w.heap.size ≤ q ∧ q < w4.heap.size) := hidI (fun q hq => ⟨Nat.le_trans HB2.out.size (HS3.out.ge hq), HS3.out.lt hq⟩)
      have HNE : Hid (∀ q ub', (∀ q, ES g (.slice A1 bs.length c1) ub' q → ES g (.slice A1 bs.length c1) ub q ∨ w4.heap.size ≤ q) → w.heap.size ≤ q ∧ q < w4.heap.size → ¬ ES g (.slice A1 bs.length c1) ub' q) := hidI (fun q ub' hP hq hk => by
        rcases hP q hk with h1 | h1
        · have := ES_lt HE.out h1; omega
        · omega)
      clear HS2 HS3 HB3 HE1
      simp only []
      go_wp2_with fail
      go_loopw [10, 12] (fun b i wr => ∃ (k : Nat) (bb : Bool) (s' : DkS) (ub' : Value), w4.heap.size ≤ wr.heap.size ∧ a ≤ k ∧ k ≤ bs.length ∧ i = .int .i64 k ∧ b = .bool bb ∧ Hid (Z = erL s' k bb (bs.drop k) ∧ ET wr base g (.slice A1 bs.length c1) ub' s' ∧ Good bs.length (m + k) s' ∧ Fr (ES g (.slice A1 bs.length c1) ub) w wr ∧ (∀ q, ES g (.slice A1 bs.length c1) ub' q → ES g (.slice A1 bs.length c1) ub q ∨ w4.heap.size ≤ q) ∧ Strs wr w.heap.size (.slice A2 bs.length c2) bs ∧ Strs wr w.heap.size (.slice Ar R.length cr) R)) (fun _ i _ => bs.length - (intOf i).toNat)
      case atStart => exact ⟨a, false, _, ub, Nat.le_refl _, Nat.le_refl _, hle.2, rfl, rfl, H0⟩
      case round =>
        obtain ⟨k, bb, s', ub', hsw, hak, hk, rfl, rfl, HI⟩ := hrel
        by_cases hlt : k < bs.length
        · have g1 : decide ((k : Int) < (bs.length : Int)) = true := decide_eq_true (by omega)
          obtain ⟨bq, rfl⟩ : ∃ bq, A2 = some ⟨bq, 0, none⟩ := by
            rcases HI.out.2.2.2.2.2.1.cases_ with ⟨e, h⟩ | ⟨b, c', e, _⟩
            · rw [h] at hlt; simp at hlt
            · injection e with e1; exact ⟨b, e1⟩
          have q := (str_at HI.out.2.2.2.2.2.1 k hlt).1
          obtain ⟨x, hx⟩ : ∃ x, x = bs[k] := ⟨_, rfl⟩
          rw [← hx] at q
          have HX : Hid (bs.drop k = x :: bs.drop (k + 1)) := hidI (by rw [hx]; exact List.drop_eq_getElem_cons hlt)
          clear hx
          by_cases hxe : x = e64
          · as_aux_lemma =>
              have hR : Hid (Z = erL s' (k + 1) bb (bs.drop (k + 1))) := hidI (by
                rw [HI.out.1, HX.out]
                conv => lhs; unfold erL
                rw [if_pos hxe])
              have hx1 : (x.toList != e64.toList) = false := by rw [hxe]; simp
              have hx2 : (x.toList == e64.toList) = true := by rw [hxe]; simp
              clear hxe
              have HF : Hid (Z = erL s' (k + 1) bb (bs.drop (k + 1)) ∧ ET wr base g (.slice A1 bs.length c1) ub' s' ∧ Good bs.length (m + (k + 1)) s' ∧ Fr (ES g (.slice A1 bs.length c1) ub) w wr ∧ (∀ q, ES g (.slice A1 bs.length c1) ub' q → ES g (.slice A1 bs.length c1) ub q ∨ w4.heap.size ≤ q) ∧ Strs wr w.heap.size (.slice (some ⟨bq, 0, none⟩) bs.length c2) bs ∧ Strs wr w.heap.size (.slice Ar R.length cr) R) := hidI
                ⟨hR.out, HI.out.2.1, HI.out.2.2.1.mono (by omega), HI.out.2.2.2.1, HI.out.2.2.2.2.1, HI.out.2.2.2.2.2.1, HI.out.2.2.2.2.2.2⟩
              go_wp2_with fail
              go_roundw
              · exact ⟨k + 1, bb, s', ub', hsw, by omega, by omega, by simp, rfl, HF⟩
              · simp [intOf]; omega
          · have hx0 : (x.toList == e64.toList) = false := by
              rw [beq_eq_false_iff_ne]; intro h; apply hxe; rw [ByteArray.toList_eq, ByteArray.toList_eq] at h; apply ByteArray.ext; exact Array.ext' h
            have hx1 : (x.toList != e64.toList) = true := by simp only [bne, hx0]; rfl
            have hR : Hid (Z = if (wrS s' k e64).1 = 0 then erL (wrS s' k e64).2 (k + 1) true (bs.drop (k + 1)) else wrS s' k e64) := hidI (by
              rw [HI.out.1, HX.out]
              conv => lhs; unfold erL
              rw [if_neg hxe])
            clear hxe
            have hG' := wrS_good HI.out.2.2.1 (k : Int) e64
            have hW := rwrite_any base g (.slice A1 bs.length c1) ub' s' (k : Int) e64 wr HI.out.2.1 (Nat.le_trans hb HI.out.2.2.2.1.size) HI.out.2.2.1.fuse (by have := HI.out.2.2.1.few; omega)
            by_cases hr : (wrS s' k e64).1 = 0
            · as_aux_lemma =>
                have hR2 : Hid (Z = erL (wrS s' k e64).2 (k + 1) true (bs.drop (k + 1))) := hidI (by rw [hR.out, if_pos hr])
                rw [hr] at hW
                obtain ⟨s3, hs3⟩ : ∃ s3, s3 = (wrS s' k e64).2 := ⟨_, rfl⟩
                rw [← hs3] at hR2 hG' hW
                have HG3 := hidI hG'
                clear hs3 hG' hr
                go_wp2_with fail
                with_reducible refine hW.mono ?_
                rintro e w5 ⟨rfl, uc, hD4, hF4, hP4⟩
                have HF : Hid (Z = erL s3 (k + 1) true (bs.drop (k + 1)) ∧ ET w5 base g (.slice A1 bs.length c1) uc s3 ∧ Good bs.length (m + (k + 1)) s3 ∧ Fr (ES g (.slice A1 bs.length c1) ub) w w5 ∧ (∀ q, ES g (.slice A1 bs.length c1) uc q → ES g (.slice A1 bs.length c1) ub q ∨ w4.heap.size ≤ q) ∧ Strs w5 w.heap.size (.slice (some ⟨bq, 0, none⟩) bs.length c2) bs ∧ Strs w5 w.heap.size (.slice Ar R.length cr) R) := hidI
                  ⟨hR2.out, hD4, HG3.out, HI.out.2.2.2.1.trans hF4 (fun q hq h1 => by
                    rcases HI.out.2.2.2.2.1 q h1 with h2 | h2
                    · exact h2
                    · omega), fun q hq => by
                    rcases hP4 q hq with h1 | h1
                    · exact HI.out.2.2.2.2.1 q h1
                    · exact .inr (Nat.le_trans hsw h1), HI.out.2.2.2.2.2.1.fr hF4 (fun q hq => HNE.out q ub' HI.out.2.2.2.2.1 (HN2.out q hq)), HI.out.2.2.2.2.2.2.fr hF4 (fun q hq => HNE.out q ub' HI.out.2.2.2.2.1 (HNr.out q hq))⟩
                have hsw5 := Nat.le_trans hsw hF4.size
                clear hD4 hF4 hP4 hW
                simp only []
                go_wp2_with fail
                go_roundw
                · exact ⟨k + 1, true, s3, uc, hsw5, by omega, by omega, by simp, rfl, HF⟩
                · simp [intOf]; omega
            · as_aux_lemma =>
                have hR2 : Hid (Z = wrS s' k e64) := hidI (by rw [hR.out, if_neg hr])
                rw [← hR2.out] at hW hr
                obtain ⟨z1_, z2_⟩ := Z
                have hrne : (z1_ != 0) = true := by simpa using hr
                have HRN : Hid (¬ z1_ = 0) := hidI hr
                simp only at hW
                clear hr hG'
                go_wp2_with fail
                with_reducible refine hW.mono ?_
                rintro e w5 ⟨rfl, uc, hD4, hF4, hP4⟩
                have hfin : Hid (RoP base g (.slice A1 bs.length c1) ub R a (z1_, z2_) w (.returned (.tuple #[.pointer none, .int .i64 z1_])) w5) := hidI
                  ⟨uc, _, rfl, hD4, HI.out.2.2.2.1.trans hF4 (fun q hq h1 => by
                    rcases HI.out.2.2.2.2.1 q h1 with h2 | h2
                    · exact h2
                    · omega), fun q hq => by
                    rcases hP4 q hq with h1 | h1
                    · rcases HI.out.2.2.2.2.1 q h1 with h2 | h2
                      · exact .inl h2
                      · exact .inr (by omega)
                    · exact .inr (Nat.le_trans HI.out.2.2.2.1.size h1), fun h0 => absurd h0 HRN.out⟩
                clear hD4 hF4 hP4 hW
                simp only []
                go_wp2_with fail
                go_ret2
                exact hfin.out
        · have g1 : decide ((k : Int) < (bs.length : Int)) = false := decide_eq_false (by omega)
          obtain rfl : k = bs.length := by omega
          have hR : Hid (Z = if bb = true then syS s' else (0, s')) := hidI (by
            rw [HI.out.1, List.drop_length]; rfl)
          cases bb
          · have hR2 : Hid (Z = (0, s')) := hR
            have hfin : Hid (RoP base g (.slice A1 bs.length c1) ub R a Z w (.returned (.tuple #[.pointer (some ⟨wr.heap.size, 0, none⟩), .int .i64 0])) (wr.alloc (.cells #[.pointer (some ⟨g, 0, none⟩), .slice Ar R.length cr, .int .i64 a] 77))) := hidI (by
              rw [hR2.out]
              exact ⟨ub', _, rfl, HI.out.2.1.below (below_new (Below.refl _ _) _), HI.out.2.2.2.1.alloc _, fun q hq => by
                rcases HI.out.2.2.2.2.1 q hq with h2 | h2
                · exact .inl h2
                · exact .inr (by omega), fun _ => ⟨_, _, rfl, HI.out.2.2.2.1.size, Blk.new' rfl, HI.out.2.2.2.2.2.2.below (below_new (Below.refl _ _) _), fun q hq => HNE.out q ub' HI.out.2.2.2.2.1 (HNr.out q hq)⟩⟩)
            go_wp2_with fail
            go_ret2
            exact hfin.out
          · have hS := rsync_any base g (.slice A1 bs.length c1) ub' s' wr HI.out.2.1 HI.out.2.2.1.fuse (by have := HI.out.2.2.1.few; omega) (by rw [HI.out.2.2.1.len]; exact HI.out.2.2.1.ins)
            have hR2 : Hid (Z = syS s') := hR
            rw [← hR2.out] at hS
            clear hR hR2
            obtain ⟨z1_, z2_⟩ := Z
            simp only at hS
            go_wp2_with fail
            with_reducible refine hS.mono ?_
            rintro e w5 ⟨rfl, uc, hD4, hF4, hP4⟩
            have HD5 := hidI hD4
            have HF5 : Hid (Fr (ES g (.slice A1 bs.length c1) ub) w w5) := hidI (HI.out.2.2.2.1.trans hF4 (fun q hq h1 => by
              rcases HI.out.2.2.2.2.1 q h1 with h2 | h2
              · exact h2
              · omega))
            have HP5 : Hid (∀ q, ES g (.slice A1 bs.length c1) uc q → ES g (.slice A1 bs.length c1) ub q ∨ w4.heap.size ≤ q) := hidI (fun q hq => by
              rcases hP4 q hq with h1 | h1
              · exact HI.out.2.2.2.2.1 q h1
              · exact .inr (Nat.le_trans hsw h1))
            have HS5 : Hid (Strs w5 w.heap.size (.slice Ar R.length cr) R) := hidI (HI.out.2.2.2.2.2.2.fr hF4 (fun q hq => HNE.out q ub' HI.out.2.2.2.2.1 (HNr.out q hq)))
            clear hD4 hF4 hP4 hS
            by_cases hz : z1_ = 0
            · subst hz
              have hfin : Hid (RoP base g (.slice A1 bs.length c1) ub R a (0, z2_) w (.returned (.tuple #[.pointer (some ⟨w5.heap.size, 0, none⟩), .int .i64 0])) (w5.alloc (.cells #[.pointer (some ⟨g, 0, none⟩), .slice Ar R.length cr, .int .i64 a] 77))) := hidI
                ⟨uc, _, rfl, HD5.out.below (below_new (Below.refl _ _) _), HF5.out.alloc _, fun q hq => by
                  rcases HP5.out q hq with h2 | h2
                  · exact .inl h2
                  · exact .inr (by omega), fun _ => ⟨_, _, rfl, HF5.out.size, Blk.new' rfl, HS5.out.below (below_new (Below.refl _ _) _), fun q hq => HNE.out q uc HP5.out (HNr.out q hq)⟩⟩
              simp only []
              go_wp2_with fail
              go_ret2
              exact hfin.out
            · have hz1 : (z1_ != 0) = true := by simpa using hz
              have hfin : Hid (RoP base g (.slice A1 bs.length c1) ub R a (z1_, z2_) w (.returned (.tuple #[.pointer none, .int .i64 z1_])) w5) := hidI
                ⟨uc, _, rfl, HD5.out, HF5.out, fun q hq => by
                  rcases HP5.out q hq with h2 | h2
                  · exact .inl h2
                  · exact .inr (by omega), fun h0 => absurd h0 hz⟩
              clear hz
              simp only []
              go_wp2_with fail
              go_ret2
              exact hfin.out
end Go.Proofs.Ytckfkbmefdmedaa
namespace Go.Proofs.Ytckfkbmefdmedaa
open Go.RowKit Go.Proofs.Kq Go.Proofs.Ytckfkbmefdmedaa.Q
open Go.Proofs.YtckfkbmefdmedaaW.PrintWords (pw_cell_below Kd Kd.C Kd.C_below Kd.R Kd.R_of_own Kd.R_reads encs encs_length rdOf)
set_option linter.unusedVariables false
set_option linter.unusedSimpArgs false
theorem OwnS.reads {w : World} {base : Nat} {v : Value} {xs : List ByteArray} (h : OwnS w base v xs) : ∃ A c, v = .slice A xs.length c ∧ xs.length ≤ c ∧ Kd.C Kd.string w A xs.length xs :=
  Kd.R_reads (Kd.R_of_own (enc := Value.string) (h1 := fun _ => rfl) (ok := fun _ => True) h (fun _ _ => trivial))
end Go.Proofs.Ytckfkbmefdmedaa
namespace Go.Proofs.Ytckfkbmefdmedaa
open Go.RowKit Go.Proofs.Kq Go.Proofs.Ytckfkbmefdmedaa.Q
open Go.Proofs.YtckfkbmefdmedaaW.PrintWords (pw_cell_below Kd Kd.C Kd.C_below Kd.R Kd.own_of_R)
open Go.Proofs.YtckfkbmefdmedaaW.PrintLast
set_option linter.unusedVariables false
set_option linter.unusedSimpArgs false
theorem pack_own (number : Int) (p : ByteArray) (l : List ByteArray) (r : Int) (w : World) (hp : p.size ≤ 1000000) (h : packF number (bl p) = (l, r)) : Calls Try.prog 16 #[.int .i64 number, .string p] w fun e w' => ∃ v, e = .returned (.tuple #[v, .int .i64 r]) ∧ Strs w' w.heap.size v l ∧ Below w.heap.size w w' := by
  obtain ⟨K, hK⟩ := EvT.one (pack_ok number p hp)
  refine (block_Pack.calls K number p l r w (by rw [hK, h])).mono ?_
  rintro e w' ⟨v, rfl, hR, hb⟩
  exact ⟨v, rfl, strs_of_R hR, hb⟩
theorem packF_err {n : Int} {L : List UInt8} (h : (packF n L).2 ≠ 0) : (packF n L).2 = 1 := by
  unfold packF at h ⊢
  split
  · rfl
  · rename_i h2; rw [if_neg h2] at h; exact absurd rfl h
set_option maxRecDepth 100000 in
theorem jleft_any (base j d at_ cnt : Nat) (v1 v2 : Value) (s : DkS) (w : World) (h : DT w base d v1 v2 s) (hJ : JB w j d at_ cnt) (hl : s.bs.length ≤ 1000000) (ha : at_ ≤ s.bs.length) :
    Calls Try.prog 48 #[.pointer (some ⟨j, 0, none⟩)] w fun e w' => e = .returned (.int .i64 ((s.bs.length - at_ : Nat) : Int)) ∧ w' = w.drew := by
  unfold JB at hJ
  have hLen := len_any base d v1 v2 s w.drew (h.below (Below.refl _ _).drew)
  have q1 : w.cell? ⟨j, 1, none⟩ = some (.int .i64 at_) := hJ.c 1
  have q0 : w.cell? ⟨j, 0, none⟩ = some (.pointer (some ⟨d, 0, none⟩)) := hJ.c 0
  have l0 := hJ.lt
  generalize s.bs.length = n at *
  have hs : wrap64 ((n : Int) - (at_ : Int)) = ((n - at_ : Nat) : Int) := by unfold wrap64; omega
  have hs2 : ((n : Int) - (at_ : Int)) = ((n - at_ : Nat) : Int) := by omega
  have HS := hidI hs
  have HS2 := hidI hs2
  clear hJ h hs hs2
  go_enter Try.func48, Try.ntmps48
  go_wp2_with fail
  refine start_ (n := 11) (S := fun w' => w'.cell? ⟨j, 1, none⟩ = some (.int .i64 at_) ∧ w'.cell? ⟨j, 0, none⟩ = some (.pointer (some ⟨d, 0, none⟩))) (ds := []) #[false, false, false, false, false, false, false, false, false, false, false] (by kernel_rfl) rfl rfl ⟨q1, q0⟩ (fun hHeld => ?_)
  refine pure_ (i := 0) (N := some 5) (v := ?_) (a' := ?_) #[true, false, false, false, false, false, false, false, false, false, false] rfl rfl (by kernel_rfl) (fun _ _ _ h => h) (Or.inl ⟨by rfl, ?_⟩) ?_ ?_
  rotate_left
  · intro w'
    go_simp
    with_reducible rfl
  rotate_left
  · simp only [Act.put, List.setIfInBounds_toArray, List.set_cons_zero, List.set_cons_succ, i64_w, i32_w]
    rfl
  refine pure_ (i := 1) (N := some 6) (v := ?_) (a' := ?_) #[true, true, false, false, false, false, false, false, false, false, false] rfl rfl (by kernel_rfl) (fun _ _ _ h => h) (Or.inl ⟨by rfl, ?_⟩) ?_ ?_
  rotate_left
  · intro w'
    go_simp
    with_reducible rfl
  rotate_left
  · simp only [Act.put, List.setIfInBounds_toArray, List.set_cons_zero, List.set_cons_succ, i64_w, i32_w]
    rfl
  refine pure_ (i := 2) (N := some 7) (v := ?_) (a' := ?_) #[true, true, true, false, false, false, false, false, false, false, false] rfl rfl (by kernel_rfl) (fun _ _ _ h => h) (Or.inl ⟨by rfl, ?_⟩) ?_ ?_
  rotate_left
  · intro w'
    go_simp
    with_reducible rfl
  rotate_left
  · simp only [Act.put, List.setIfInBounds_toArray, List.set_cons_zero, List.set_cons_succ, i64_w, i32_w]
    rfl
  refine pure_ (i := 5) (N := some 10) (v := ?_) (a' := ?_) #[true, true, true, false, false, true, false, false, false, false, false] rfl rfl (by kernel_rfl) (fun _ _ _ h => h) (Or.inl ⟨by rfl, ?_⟩) ?_ ?_
  rotate_left
  · intro w'
    go_simp
    with_reducible rfl
  rotate_left
  · simp only [Act.put, List.setIfInBounds_toArray, List.set_cons_zero, List.set_cons_succ, i64_w, i32_w]
    rfl
  refine pure_ (i := 6) (N := some 11) (v := ?_) (a' := ?_) #[true, true, true, false, false, true, true, false, false, false, false] rfl rfl (by kernel_rfl) (fun _ _ _ h => h) (Or.inl ⟨by rfl, ?_⟩) ?_ ?_
  rotate_left
  · intro w'
    go_simp
    with_reducible rfl
  rotate_left
  · simp only [Act.put, List.setIfInBounds_toArray, List.set_cons_zero, List.set_cons_succ, i64_w, i32_w]
    rfl
  refine pure_ (i := 7) (N := some 12) (v := ?_) (a' := ?_) #[true, true, true, false, false, true, true, true, false, false, false] rfl rfl (by kernel_rfl) (fun _ _ _ h => h) (Or.inl ⟨by rfl, ?_⟩) ?_ ?_
  rotate_left
  · intro w'
    go_simp
    with_reducible rfl
  rotate_left
  · simp only [Act.put, List.setIfInBounds_toArray, List.set_cons_zero, List.set_cons_succ, i64_w, i32_w]
    rfl
  refine take_ (i := 3) (N := some 8) (v := ?_) (a' := ?_) #[true, true, true, true, false, true, true, true, false, false, false] rfl rfl (by kernel_rfl) (fun _ _ _ h => h) (Or.inl ⟨by rfl, ?_⟩) hHeld ?_ ?_
  rotate_left
  · rintro w' ⟨s0, s1⟩
    go_simp
    with_reducible rfl
  rotate_left
  · simp only [Act.put, List.setIfInBounds_toArray, List.set_cons_zero, List.set_cons_succ, i64_w, i32_w]
    rfl
  refine take_ (i := 8) (N := some 13) (v := ?_) (a' := ?_) #[true, true, true, true, false, true, true, true, true, false, false] rfl rfl (by kernel_rfl) (fun _ _ _ h => h) (Or.inl ⟨by rfl, ?_⟩) hHeld ?_ ?_
  rotate_left
  · rintro w' ⟨s0, s1⟩
    go_simp
    with_reducible rfl
  rotate_left
  · simp only [Act.put, List.setIfInBounds_toArray, List.set_cons_zero, List.set_cons_succ, i64_w, i32_w]
    rfl
  refine one_ (i := 4) (N := some 9) #[true, true, true, true, true, true, true, true, true, false, false] rfl rfl (by kernel_rfl) (by decide) (fun K hK => ?_)
  refine goes_ Try.func33 (by kernel_rfl) rfl #[.pointer (some ⟨d, 0, none⟩)] (by rfl) rfl rfl (by simp only [List.map_toArray, List.map_cons, List.map_nil]; rfl) ?_
  with_reducible refine (hLen).mono ?_
  rintro e w3 ⟨rfl, hw3⟩
  subst hw3
  refine ⟨_, rfl, ?_⟩
  refine hK.out _ _ ⟨hHeld.1, hHeld.2⟩ (fun hHeld => ?_)
  clear hK K
  refine norm_ (a' := ?_) ?_ ?_
  rotate_left
  · show Act.put _ (some 9) _ = _
    simp only [Act.put, List.setIfInBounds_toArray, List.set_cons_zero, List.set_cons_succ, i64_w, i32_w]
    rfl
  refine pure_ (i := 9) (N := some 14) (v := ?_) (a' := ?_) #[true, true, true, true, true, true, true, true, true, true, false] rfl rfl (by kernel_rfl) (fun _ _ _ h => h) (Or.inl ⟨by rfl, ?_⟩) ?_ ?_
  rotate_left
  · intro w'
    go_simp
    with_reducible rfl
  rotate_left
  · simp only [Act.put, List.setIfInBounds_toArray, List.set_cons_zero, List.set_cons_succ, i64_w, i32_w]
    rfl
  refine pure_ (i := 10) (N := some 2) (v := ?_) (a' := ?_) #[true, true, true, true, true, true, true, true, true, true, true] rfl rfl (by kernel_rfl) (fun _ _ _ h => h) (Or.inl ⟨by rfl, ?_⟩) ?_ ?_
  rotate_left
  · intro w'
    go_simp
    with_reducible rfl
  rotate_left
  · simp only [Act.put, List.setIfInBounds_toArray, List.set_cons_zero, List.set_cons_succ, i64_w, i32_w]
    rfl
  refine done_ (by kernel_rfl) ?_
  clear hHeld
  go_wp2_with fail
  go_ret
  first | exact ⟨rfl, rfl⟩ | exact ⟨ret_int rfl, rfl⟩ | exact ⟨ret_int HS.out, rfl⟩ | exact ⟨ret_int HS2.out, rfl⟩
def ApP (base d j : Nat) (v1 v2 : Value) (at_ cnt len : Nat) (r : Int × DkS) (w : World) (e : Ending) (w' : World) : Prop :=
  e = .returned (.int .i64 r.1) ∧ ∃ v2', DT w' base d v1 v2' r.2 ∧ Fr (fun k => DS d v1 v2 k ∨ k = j) w w' ∧ (∀ q, DS d v1 v2' q → DS d v1 v2 q ∨ w.heap.size ≤ q) ∧ JB w' j d (if r.1 = 0 then at_ + len else at_) (if r.1 = 0 then cnt + 1 else cnt)
theorem apF_run (bs : List ByteArray) (ps : List Wr) (f : Int) (at_ cnt : Nat) (p : ByteArray) (l : List ByteArray) (h : packF cnt (bl p) = (l, 0)) (hn : ¬ bs.length < at_ + l.length) :
    apF ⟨bs, ps, f, false⟩ at_ cnt p = if (wrL ⟨bs, ps, f, false⟩ at_ l).1 = 0 then syS (wrL ⟨bs, ps, f, false⟩ at_ l).2 else wrL ⟨bs, ps, f, false⟩ at_ l := by
  unfold apF
  rw [if_neg (show ¬ (false = true) by decide), h, if_pos rfl]
  rw [if_neg hn]
theorem notDSj {w : World} {base d j : Nat} {v1 v2 : Value} {s : DkS} {cs : Array Value} (h : DT w base d v1 v2 s) (hJ : Blk w j cs 144) : ¬ DS d v1 v2 j := by
  rintro (e | hk | hk)
  · have a := h.blk; unfold Blk at a hJ; rw [← e, hJ] at a; cases a
  · exact h.own.ne hJ (by decide) hk
  · exact h.pend.ne hJ (by decide) hk
set_option maxHeartbeats 8000000 in
set_option maxRecDepth 100000 in
theorem jappend_any (base d j : Nat) (v1 v2 : Value) (s : DkS) (at_ cnt n m : Nat) (p : ByteArray) (w : World) (h : DT w base d v1 v2 s) (hJ : JB w j d at_ cnt) (hG : Good n m s) (hb : base ≤ w.heap.size) (hm : m ≤ 1000000) (hat : at_ ≤ 1000000) (hcnt : cnt ≤ 1000000) (hn : n ≤ 65536) (hp : p.size ≤ 1000000) :
    Calls Try.prog 45 #[.pointer (some ⟨j, 0, none⟩), .string p] w (ApP base d j v1 v2 at_ cnt (packF cnt (bl p)).1.length (apF s at_ cnt p) w) := by
  obtain ⟨bs, ps, fuse, dead⟩ := s
  unfold JB at hJ
  have q1 : w.cell? ⟨j, 1, none⟩ = some (.int .i64 at_) := hJ.c 1
  have q0 : w.cell? ⟨j, 0, none⟩ = some (.pointer (some ⟨d, 0, none⟩)) := hJ.c 0
  have q2 : w.cell? ⟨j, 2, none⟩ = some (.int .i64 cnt) := hJ.c 2
  have HD := hidI h
  have HG := hidI hG
  have HJ := hidI hJ
  have HNJ : Hid (¬ DS d v1 v2 j) := hidI (notDSj h hJ)
  have hnl : bs.length = n := hG.len
  have hdead := dead_any base d v1 v2 _ w h
  clear h hG hJ
  cases dead
  · obtain ⟨l, r, hpk⟩ : ∃ l r, packF cnt (bl p) = (l, r) := ⟨_, _, rfl⟩
    have hpo := pack_own (cnt : Int) p l r w hp hpk
    have hll : l.length ≤ 255 := by have := packF_len (n := (cnt : Int)) (L := bl p); rw [hpk] at this; exact this
    have hsz : Hid (∀ x ∈ l, x.size = 64) := hidI (by have := packF_size (n := (cnt : Int)) (L := bl p); rw [hpk] at this; exact this)
    have hplen : (packF cnt (bl p)).1.length = l.length := by rw [hpk]
    rw [hplen]
    by_cases hr : r = 0
    · subst hr
      by_cases hfull : bs.length < at_ + l.length
      · as_aux_lemma =>
          have hap : apF ⟨bs, ps, fuse, false⟩ at_ cnt p = (6, ⟨bs, ps, fuse, false⟩) := by
            unfold apF; rw [if_neg (show ¬ (false = true) by decide), hpk, if_pos rfl, if_pos hfull]
          have HAP := hidI hap
          have c1 : decide ((bs.length : Int) < (at_ : Int) + (l.length : Int)) = true := decide_eq_true (by omega)
          have c2 : decide ((bs.length : Int) < wrap64 ((at_ : Int) + (l.length : Int))) = true := decide_eq_true (by unfold wrap64; omega)
          have hLen : Hid (∀ W, Below w.heap.size w W → Calls Try.prog 33 #[.pointer (some ⟨d, 0, none⟩)] W fun e w' => e = .returned (.int .i64 bs.length) ∧ w' = W) := hidI (fun W hb => len_any base d v1 v2 _ W (HD.out.below hb))
          clear hap hnl hfull hplen hpk
          go_enter Try.func45, Try.ntmps45
          go_wp2_with fail
          with_reducible refine hdead.mono ?_
          rintro e w1 ⟨rfl, hw1⟩
          subst hw1
          simp only []
          go_wp2_with fail
          with_reducible refine hpo.mono ?_
          rintro e w2 ⟨vl, rfl, hS2, hb2⟩
          obtain ⟨Al, cl, rfl, _⟩ := hS2.slice_
          replace q1 := pw_cell_below hb2 q1
          replace q0 := pw_cell_below hb2 q0
          have HB2 := hidI hb2
          have hLen := hLen.out w2.drew (HB2.out.drew)
          clear hS2 hb2 q2 hdead hpo
          simp only []
          go_wp2_with fail
          refine start_ (n := 13) (S := fun w' => w'.cell? ⟨j, 1, none⟩ = some (.int .i64 at_) ∧ w'.cell? ⟨j, 0, none⟩ = some (.pointer (some ⟨d, 0, none⟩))) (ds := []) #[false, false, false, false, false, false, false, false, false, false, false, false, false] (by kernel_rfl) rfl rfl ⟨q1, q0⟩ (fun hHeld => ?_)
          refine pure_ (i := 0) (N := some 32) (v := ?_) (a' := ?_) #[true, false, false, false, false, false, false, false, false, false, false, false, false] rfl rfl (by kernel_rfl) (fun _ _ _ h => h) (Or.inl ⟨by rfl, ?_⟩) ?_ ?_
          rotate_left
          · intro w'
            go_simp
            with_reducible rfl
          rotate_left
          · simp only [Act.put, List.setIfInBounds_toArray, List.set_cons_zero, List.set_cons_succ, i64_w, i32_w]
            rfl
          refine pure_ (i := 1) (N := some 33) (v := ?_) (a' := ?_) #[true, true, false, false, false, false, false, false, false, false, false, false, false] rfl rfl (by kernel_rfl) (fun _ _ _ h => h) (Or.inl ⟨by rfl, ?_⟩) ?_ ?_
          rotate_left
          · intro w'
            go_simp
            with_reducible rfl
          rotate_left
          · simp only [Act.put, List.setIfInBounds_toArray, List.set_cons_zero, List.set_cons_succ, i64_w, i32_w]
            rfl
          refine pure_ (i := 2) (N := some 34) (v := ?_) (a' := ?_) #[true, true, true, false, false, false, false, false, false, false, false, false, false] rfl rfl (by kernel_rfl) (fun _ _ _ h => h) (Or.inl ⟨by rfl, ?_⟩) ?_ ?_
          rotate_left
          · intro w'
            go_simp
            with_reducible rfl
          rotate_left
          · simp only [Act.put, List.setIfInBounds_toArray, List.set_cons_zero, List.set_cons_succ, i64_w, i32_w]
            rfl
          refine pure_ (i := 4) (N := some 36) (v := ?_) (a' := ?_) #[true, true, true, false, true, false, false, false, false, false, false, false, false] rfl rfl (by kernel_rfl) (fun _ _ _ h => h) (Or.inl ⟨by rfl, ?_⟩) ?_ ?_
          rotate_left
          · intro w'
            go_simp
            with_reducible rfl
          rotate_left
          · simp only [Act.put, List.setIfInBounds_toArray, List.set_cons_zero, List.set_cons_succ, i64_w, i32_w]
            rfl
          refine pure_ (i := 5) (N := some 37) (v := ?_) (a' := ?_) #[true, true, true, false, true, true, false, false, false, false, false, false, false] rfl rfl (by kernel_rfl) (fun _ _ _ h => h) (Or.inl ⟨by rfl, ?_⟩) ?_ ?_
          rotate_left
          · intro w'
            go_simp
            with_reducible rfl
          rotate_left
          · simp only [Act.put, List.setIfInBounds_toArray, List.set_cons_zero, List.set_cons_succ, i64_w, i32_w]
            rfl
          refine pure_ (i := 7) (N := some 39) (v := ?_) (a' := ?_) #[true, true, true, false, true, true, false, true, false, false, false, false, false] rfl rfl (by kernel_rfl) (fun _ _ _ h => h) (Or.inl ⟨by rfl, ?_⟩) ?_ ?_
          rotate_left
          · intro w'
            go_simp
            with_reducible rfl
          rotate_left
          · simp only [Act.put, List.setIfInBounds_toArray, List.set_cons_zero, List.set_cons_succ, i64_w, i32_w]
            rfl
          refine pure_ (i := 8) (N := some 40) (v := ?_) (a' := ?_) #[true, true, true, false, true, true, false, true, true, false, false, false, false] rfl rfl (by kernel_rfl) (fun _ _ _ h => h) (Or.inl ⟨by rfl, ?_⟩) ?_ ?_
          rotate_left
          · intro w'
            go_simp
            with_reducible rfl
          rotate_left
          · simp only [Act.put, List.setIfInBounds_toArray, List.set_cons_zero, List.set_cons_succ, i64_w, i32_w]
            rfl
          refine pure_ (i := 9) (N := some 41) (v := ?_) (a' := ?_) #[true, true, true, false, true, true, false, true, true, true, false, false, false] rfl rfl (by kernel_rfl) (fun _ _ _ h => h) (Or.inl ⟨by rfl, ?_⟩) ?_ ?_
          rotate_left
          · intro w'
            go_simp
            with_reducible rfl
          rotate_left
          · simp only [Act.put, List.setIfInBounds_toArray, List.set_cons_zero, List.set_cons_succ, i64_w, i32_w]
            rfl
          refine take_ (i := 3) (N := some 35) (v := ?_) (a' := ?_) #[true, true, true, true, true, true, false, true, true, true, false, false, false] rfl rfl (by kernel_rfl) (fun _ _ _ h => h) (Or.inl ⟨by rfl, ?_⟩) hHeld ?_ ?_
          rotate_left
          · rintro w' ⟨s0, s1⟩
            go_simp
            with_reducible rfl
          rotate_left
          · simp only [Act.put, List.setIfInBounds_toArray, List.set_cons_zero, List.set_cons_succ, i64_w, i32_w]
            rfl
          refine pure_ (i := 6) (N := some 38) (v := ?_) (a' := ?_) #[true, true, true, true, true, true, true, true, true, true, false, false, false] rfl rfl (by kernel_rfl) (fun _ _ _ h => h) (Or.inl ⟨by rfl, ?_⟩) ?_ ?_
          rotate_left
          · intro w'
            go_simp
            with_reducible rfl
          rotate_left
          · simp only [Act.put, List.setIfInBounds_toArray, List.set_cons_zero, List.set_cons_succ, i64_w, i32_w]
            rfl
          refine take_ (i := 10) (N := some 42) (v := ?_) (a' := ?_) #[true, true, true, true, true, true, true, true, true, true, true, false, false] rfl rfl (by kernel_rfl) (fun _ _ _ h => h) (Or.inl ⟨by rfl, ?_⟩) hHeld ?_ ?_
          rotate_left
          · rintro w' ⟨s0, s1⟩
            go_simp
            with_reducible rfl
          rotate_left
          · simp only [Act.put, List.setIfInBounds_toArray, List.set_cons_zero, List.set_cons_succ, i64_w, i32_w]
            rfl
          refine one_ (i := 11) (N := some 43) #[true, true, true, true, true, true, true, true, true, true, true, true, false] rfl rfl (by kernel_rfl) (by decide) (fun K hK => ?_)
          refine goes_ Try.func33 (by kernel_rfl) rfl #[.pointer (some ⟨d, 0, none⟩)] (by rfl) rfl rfl (by simp only [List.map_toArray, List.map_cons, List.map_nil]; rfl) ?_
          with_reducible refine (hLen).mono ?_
          rintro e w3 ⟨rfl, hw3⟩
          subst hw3
          refine ⟨_, rfl, ?_⟩
          refine hK.out _ _ ⟨hHeld.1, hHeld.2⟩ (fun hHeld => ?_)
          clear hK K
          refine norm_ (a' := ?_) ?_ ?_
          rotate_left
          · show Act.put _ (some 43) _ = _
            simp only [Act.put, List.setIfInBounds_toArray, List.set_cons_zero, List.set_cons_succ, i64_w, i32_w]
            rfl
          refine pure_ (i := 12) (N := some 44) (v := ?_) (a' := ?_) #[true, true, true, true, true, true, true, true, true, true, true, true, true] rfl rfl (by kernel_rfl) (fun _ _ _ h => h) (Or.inl ⟨by rfl, ?_⟩) ?_ ?_
          rotate_left
          · intro w'
            go_simp
            with_reducible rfl
          rotate_left
          · simp only [Act.put, List.setIfInBounds_toArray, List.set_cons_zero, List.set_cons_succ, i64_w, i32_w]
            rfl
          refine done_ (by kernel_rfl) ?_
          have hfin : Hid (ApP base d j v1 v2 at_ cnt l.length (apF ⟨bs, ps, fuse, false⟩ at_ cnt p) w1 (.returned (.int .i64 6)) w2.drew) := hidI (by
            rw [HAP.out]
            exact ⟨rfl, v2, HD.out.below HB2.out.drew, (Fr.of_below HB2.out).drew, fun q hq => .inl hq, (HJ.out.be HB2.out).dr⟩)
          clear hHeld
          go_wp2_with fail
          go_ret
          exact hfin.out
      · obtain ⟨Z, hZ⟩ : ∃ Z, Z = wrL ⟨bs, ps, fuse, false⟩ at_ l := ⟨_, rfl⟩
        have hap := apF_run bs ps fuse at_ cnt p l hpk hfull
        rw [← hZ] at hap
        have HAP := hidI hap
        have HZ := hidI hZ
        have hfit : at_ + l.length ≤ n := by omega
        have c1 : decide ((bs.length : Int) < (at_ : Int) + (l.length : Int)) = false := decide_eq_false (by omega)
        have c2 : decide ((bs.length : Int) < wrap64 ((at_ : Int) + (l.length : Int))) = false := decide_eq_false (by unfold wrap64; omega)
        have hLen : Hid (∀ W, Below w.heap.size w W → Calls Try.prog 33 #[.pointer (some ⟨d, 0, none⟩)] W fun e w' => e = .returned (.int .i64 bs.length) ∧ w' = W) := hidI (fun W hb => len_any base d v1 v2 _ W (HD.out.below hb))
        clear hap hnl hfull hplen hpk hZ
        go_enter Try.func45, Try.ntmps45
        go_wp2_with fail
        with_reducible refine hdead.mono ?_
        rintro e w1 ⟨rfl, hw1⟩
        subst hw1
        simp only []
        go_wp2_with fail
        with_reducible refine hpo.mono ?_
        rintro e w2 ⟨vl, rfl, hS2, hb2⟩
        obtain ⟨Al, cl, rfl, _⟩ := hS2.slice_
        replace q1 := pw_cell_below hb2 q1
        replace q0 := pw_cell_below hb2 q0
        have HB2 := hidI hb2
        have HS2 := hidI hS2
        have hLen := hLen.out w2.drew (HB2.out.drew)
        clear hS2 hb2 q2 hdead hpo
        simp only []
        go_wp2_with fail
        refine start_ (n := 13) (S := fun w' => w'.cell? ⟨j, 1, none⟩ = some (.int .i64 at_) ∧ w'.cell? ⟨j, 0, none⟩ = some (.pointer (some ⟨d, 0, none⟩))) (ds := []) #[false, false, false, false, false, false, false, false, false, false, false, false, false] (by kernel_rfl) rfl rfl ⟨q1, q0⟩ (fun hHeld => ?_)
        refine pure_ (i := 0) (N := some 32) (v := ?_) (a' := ?_) #[true, false, false, false, false, false, false, false, false, false, false, false, false] rfl rfl (by kernel_rfl) (fun _ _ _ h => h) (Or.inl ⟨by rfl, ?_⟩) ?_ ?_
        rotate_left
        · intro w'
          go_simp
          with_reducible rfl
        rotate_left
        · simp only [Act.put, List.setIfInBounds_toArray, List.set_cons_zero, List.set_cons_succ, i64_w, i32_w]
          rfl
        refine pure_ (i := 1) (N := some 33) (v := ?_) (a' := ?_) #[true, true, false, false, false, false, false, false, false, false, false, false, false] rfl rfl (by kernel_rfl) (fun _ _ _ h => h) (Or.inl ⟨by rfl, ?_⟩) ?_ ?_
        rotate_left
        · intro w'
          go_simp
          with_reducible rfl
        rotate_left
        · simp only [Act.put, List.setIfInBounds_toArray, List.set_cons_zero, List.set_cons_succ, i64_w, i32_w]
          rfl
        refine pure_ (i := 2) (N := some 34) (v := ?_) (a' := ?_) #[true, true, true, false, false, false, false, false, false, false, false, false, false] rfl rfl (by kernel_rfl) (fun _ _ _ h => h) (Or.inl ⟨by rfl, ?_⟩) ?_ ?_
        rotate_left
        · intro w'
          go_simp
          with_reducible rfl
        rotate_left
        · simp only [Act.put, List.setIfInBounds_toArray, List.set_cons_zero, List.set_cons_succ, i64_w, i32_w]
          rfl
        refine pure_ (i := 4) (N := some 36) (v := ?_) (a' := ?_) #[true, true, true, false, true, false, false, false, false, false, false, false, false] rfl rfl (by kernel_rfl) (fun _ _ _ h => h) (Or.inl ⟨by rfl, ?_⟩) ?_ ?_
        rotate_left
        · intro w'
          go_simp
          with_reducible rfl
        rotate_left
        · simp only [Act.put, List.setIfInBounds_toArray, List.set_cons_zero, List.set_cons_succ, i64_w, i32_w]
          rfl
        refine pure_ (i := 5) (N := some 37) (v := ?_) (a' := ?_) #[true, true, true, false, true, true, false, false, false, false, false, false, false] rfl rfl (by kernel_rfl) (fun _ _ _ h => h) (Or.inl ⟨by rfl, ?_⟩) ?_ ?_
        rotate_left
        · intro w'
          go_simp
          with_reducible rfl
        rotate_left
        · simp only [Act.put, List.setIfInBounds_toArray, List.set_cons_zero, List.set_cons_succ, i64_w, i32_w]
          rfl
        refine pure_ (i := 7) (N := some 39) (v := ?_) (a' := ?_) #[true, true, true, false, true, true, false, true, false, false, false, false, false] rfl rfl (by kernel_rfl) (fun _ _ _ h => h) (Or.inl ⟨by rfl, ?_⟩) ?_ ?_
        rotate_left
        · intro w'
          go_simp
          with_reducible rfl
        rotate_left
        · simp only [Act.put, List.setIfInBounds_toArray, List.set_cons_zero, List.set_cons_succ, i64_w, i32_w]
          rfl
        refine pure_ (i := 8) (N := some 40) (v := ?_) (a' := ?_) #[true, true, true, false, true, true, false, true, true, false, false, false, false] rfl rfl (by kernel_rfl) (fun _ _ _ h => h) (Or.inl ⟨by rfl, ?_⟩) ?_ ?_
        rotate_left
        · intro w'
          go_simp
          with_reducible rfl
        rotate_left
        · simp only [Act.put, List.setIfInBounds_toArray, List.set_cons_zero, List.set_cons_succ, i64_w, i32_w]
          rfl
        refine pure_ (i := 9) (N := some 41) (v := ?_) (a' := ?_) #[true, true, true, false, true, true, false, true, true, true, false, false, false] rfl rfl (by kernel_rfl) (fun _ _ _ h => h) (Or.inl ⟨by rfl, ?_⟩) ?_ ?_
        rotate_left
        · intro w'
          go_simp
          with_reducible rfl
        rotate_left
        · simp only [Act.put, List.setIfInBounds_toArray, List.set_cons_zero, List.set_cons_succ, i64_w, i32_w]
          rfl
        refine take_ (i := 3) (N := some 35) (v := ?_) (a' := ?_) #[true, true, true, true, true, true, false, true, true, true, false, false, false] rfl rfl (by kernel_rfl) (fun _ _ _ h => h) (Or.inl ⟨by rfl, ?_⟩) hHeld ?_ ?_
        rotate_left
        · rintro w' ⟨s0, s1⟩
          go_simp
          with_reducible rfl
        rotate_left
        · simp only [Act.put, List.setIfInBounds_toArray, List.set_cons_zero, List.set_cons_succ, i64_w, i32_w]
          rfl
        refine pure_ (i := 6) (N := some 38) (v := ?_) (a' := ?_) #[true, true, true, true, true, true, true, true, true, true, false, false, false] rfl rfl (by kernel_rfl) (fun _ _ _ h => h) (Or.inl ⟨by rfl, ?_⟩) ?_ ?_
        rotate_left
        · intro w'
          go_simp
          with_reducible rfl
        rotate_left
        · simp only [Act.put, List.setIfInBounds_toArray, List.set_cons_zero, List.set_cons_succ, i64_w, i32_w]
          rfl
        refine take_ (i := 10) (N := some 42) (v := ?_) (a' := ?_) #[true, true, true, true, true, true, true, true, true, true, true, false, false] rfl rfl (by kernel_rfl) (fun _ _ _ h => h) (Or.inl ⟨by rfl, ?_⟩) hHeld ?_ ?_
        rotate_left
        · rintro w' ⟨s0, s1⟩
          go_simp
          with_reducible rfl
        rotate_left
        · simp only [Act.put, List.setIfInBounds_toArray, List.set_cons_zero, List.set_cons_succ, i64_w, i32_w]
          rfl
        refine one_ (i := 11) (N := some 43) #[true, true, true, true, true, true, true, true, true, true, true, true, false] rfl rfl (by kernel_rfl) (by decide) (fun K hK => ?_)
        refine goes_ Try.func33 (by kernel_rfl) rfl #[.pointer (some ⟨d, 0, none⟩)] (by rfl) rfl rfl (by simp only [List.map_toArray, List.map_cons, List.map_nil]; rfl) ?_
        with_reducible refine (hLen).mono ?_
        rintro e w3 ⟨rfl, hw3⟩
        subst hw3
        refine ⟨_, rfl, ?_⟩
        refine hK.out _ _ ⟨hHeld.1, hHeld.2⟩ (fun hHeld => ?_)
        clear hK K
        refine norm_ (a' := ?_) ?_ ?_
        rotate_left
        · show Act.put _ (some 43) _ = _
          simp only [Act.put, List.setIfInBounds_toArray, List.set_cons_zero, List.set_cons_succ, i64_w, i32_w]
          rfl
        refine pure_ (i := 12) (N := some 44) (v := ?_) (a' := ?_) #[true, true, true, true, true, true, true, true, true, true, true, true, true] rfl rfl (by kernel_rfl) (fun _ _ _ h => h) (Or.inl ⟨by rfl, ?_⟩) ?_ ?_
        rotate_left
        · intro w'
          go_simp
          with_reducible rfl
        rotate_left
        · simp only [Act.put, List.setIfInBounds_toArray, List.set_cons_zero, List.set_cons_succ, i64_w, i32_w]
          rfl
        refine done_ (by kernel_rfl) ?_
        have H0 : Hid (Z = wrL ⟨bs, ps, fuse, false⟩ (at_ + 0) (l.drop 0) ∧ DT w2.drew base d v1 v2 ⟨bs, ps, fuse, false⟩ ∧ Good n (m + 0) ⟨bs, ps, fuse, false⟩ ∧ Fr (DS d v1 v2) w1 w2.drew ∧ (∀ q, DS d v1 v2 q → DS d v1 v2 q ∨ w1.heap.size ≤ q) ∧ Blk w2.drew j #[.pointer (some ⟨d, 0, none⟩), .int .i64 at_, .int .i64 cnt] 144 ∧ Strs w2.drew w1.heap.size (.slice Al l.length cl) l ∧ (∀ q, (Value.slice Al l.length cl).ownBlock = some q → ¬ DS d v1 v2 q) ∧ ¬ DS d v1 v2 j) := hidI
          ⟨HZ.out, HD.out.below HB2.out.drew, HG.out, (Fr.of_below HB2.out).drew, fun q hq => .inl hq, (HJ.out.be HB2.out).dr, HS2.out.drew, fun q hq hk => by have h1 := HS2.out.ge hq; have h2 := DS_lt HD.out hk; omega, HNJ.out⟩
        clear hHeld q1 q0 HNJ HJ hLen c1 c2 HS2 HB2
        generalize w2.drew = w2 at *
        go_wp2_with fail
        go_loopw [47] (fun i wr => ∃ (k : Nat) (s' : DkS) (v2' : Value), k ≤ l.length ∧ i = .int .i64 k ∧ Hid (Z = wrL s' (at_ + k) (l.drop k) ∧ DT wr base d v1 v2' s' ∧ Good n (m + k) s' ∧ Fr (DS d v1 v2) w1 wr ∧ (∀ q, DS d v1 v2' q → DS d v1 v2 q ∨ w1.heap.size ≤ q) ∧ Blk wr j #[.pointer (some ⟨d, 0, none⟩), .int .i64 at_, .int .i64 cnt] 144 ∧ Strs wr w1.heap.size (.slice Al l.length cl) l ∧ (∀ q, (Value.slice Al l.length cl).ownBlock = some q → ¬ DS d v1 v2' q) ∧ ¬ DS d v1 v2' j)) (fun i _ => l.length - (intOf i).toNat)
        case atStart => exact ⟨0, _, v2, Nat.zero_le _, rfl, H0⟩
        case round =>
          obtain ⟨k, s', v2', hk, rfl, HI⟩ := hrel
          clear H0
          have q1 : wr.cell? ⟨j, 1, none⟩ = some (.int .i64 at_) := HI.out.2.2.2.2.2.1.c 1
          have q0 : wr.cell? ⟨j, 0, none⟩ = some (.pointer (some ⟨d, 0, none⟩)) := HI.out.2.2.2.2.2.1.c 0
          by_cases hlt : k < l.length
          · have g1 : decide ((k : Int) < (l.length : Int)) = true := decide_eq_true (by omega)
            obtain ⟨bq, rfl⟩ : ∃ bq, Al = some ⟨bq, 0, none⟩ := by
              rcases HI.out.2.2.2.2.2.2.1.cases_ with ⟨e, h⟩ | ⟨b, c', e, _⟩
              · rw [h] at hlt; simp at hlt
              · injection e with e1; exact ⟨b, e1⟩
            have q := (str_at HI.out.2.2.2.2.2.2.1 k hlt).1
            obtain ⟨x, hx⟩ : ∃ x, x = l[k] := ⟨_, rfl⟩
            rw [← hx] at q
            have HX : Hid (l.drop k = x :: l.drop (k + 1)) := hidI (by rw [hx]; exact List.drop_eq_getElem_cons hlt)
            clear hx
            have hR : Hid (Z = if (wrS s' ((at_ + k : Nat) : Int) x).1 = 0 then wrL (wrS s' ((at_ + k : Nat) : Int) x).2 (at_ + k + 1) (l.drop (k + 1)) else wrS s' ((at_ + k : Nat) : Int) x) := hidI (by
              rw [HI.out.1, HX.out]
              conv => lhs; unfold wrL)
            have hG' := wrS_good HI.out.2.2.1 ((at_ + k : Nat) : Int) x
            have HWR : Hid (wrap64 ((at_ : Int) + (k : Int)) = ((at_ + k : Nat) : Int)) := hidI (by unfold wrap64; omega)
            have HNJ : Hid (¬ DS d v1 v2' j) := hidI HI.out.2.2.2.2.2.2.2.2
            have hW := write_any base d v1 v2' s' ((at_ + k : Nat) : Int) x wr.drew (HI.out.2.1.below (Below.refl _ _).drew) (Nat.le_trans hb HI.out.2.2.2.1.size) HI.out.2.2.1.fuse (by have := HI.out.2.2.1.few; omega)
            by_cases hr : (wrS s' ((at_ + k : Nat) : Int) x).1 = 0
            · as_aux_lemma =>
                have hR2 : Hid (Z = wrL (wrS s' ((at_ + k : Nat) : Int) x).2 (at_ + k + 1) (l.drop (k + 1))) := hidI (by rw [hR.out, if_pos hr])
                rw [hr] at hW
                obtain ⟨s3, hs3⟩ : ∃ s3, s3 = (wrS s' ((at_ + k : Nat) : Int) x).2 := ⟨_, rfl⟩
                rw [← hs3] at hR2 hG' hW
                have HG3 := hidI hG'
                clear hs3 hG' hr
                go_wp2_with fail
                refine start_ (n := 13) (S := fun w' => w'.cell? ⟨j, 1, none⟩ = some (.int .i64 at_) ∧ w'.cell? ⟨j, 0, none⟩ = some (.pointer (some ⟨d, 0, none⟩))) (ds := []) #[false, false, false, false, false, false, false, false, false, false, false, false, false] (by kernel_rfl) rfl rfl ⟨q1, q0⟩ (fun hHeld => ?_)
                refine pure_ (i := 0) (N := some 52) (v := ?_) (a' := ?_) #[true, false, false, false, false, false, false, false, false, false, false, false, false] rfl rfl (by kernel_rfl) (fun _ _ _ h => h) (Or.inl ⟨by rfl, ?_⟩) ?_ ?_
                rotate_left
                · intro w'
                  go_simp
                  with_reducible rfl
                rotate_left
                · simp only [Act.put, List.setIfInBounds_toArray, List.set_cons_zero, List.set_cons_succ, i64_w, i32_w]
                  rfl
                refine pure_ (i := 1) (N := some 53) (v := ?_) (a' := ?_) #[true, true, false, false, false, false, false, false, false, false, false, false, false] rfl rfl (by kernel_rfl) (fun _ _ _ h => h) (Or.inl ⟨by rfl, ?_⟩) ?_ ?_
                rotate_left
                · intro w'
                  go_simp
                  with_reducible rfl
                rotate_left
                · simp only [Act.put, List.setIfInBounds_toArray, List.set_cons_zero, List.set_cons_succ, i64_w, i32_w]
                  rfl
                refine pure_ (i := 2) (N := some 54) (v := ?_) (a' := ?_) #[true, true, true, false, false, false, false, false, false, false, false, false, false] rfl rfl (by kernel_rfl) (fun _ _ _ h => h) (Or.inl ⟨by rfl, ?_⟩) ?_ ?_
                rotate_left
                · intro w'
                  go_simp
                  with_reducible rfl
                rotate_left
                · simp only [Act.put, List.setIfInBounds_toArray, List.set_cons_zero, List.set_cons_succ, i64_w, i32_w]
                  rfl
                refine pure_ (i := 4) (N := some 56) (v := ?_) (a' := ?_) #[true, true, true, false, true, false, false, false, false, false, false, false, false] rfl rfl (by kernel_rfl) (fun _ _ _ h => h) (Or.inl ⟨by rfl, ?_⟩) ?_ ?_
                rotate_left
                · intro w'
                  go_simp
                  with_reducible rfl
                rotate_left
                · simp only [Act.put, List.setIfInBounds_toArray, List.set_cons_zero, List.set_cons_succ, i64_w, i32_w]
                  rfl
                refine pure_ (i := 5) (N := some 57) (v := ?_) (a' := ?_) #[true, true, true, false, true, true, false, false, false, false, false, false, false] rfl rfl (by kernel_rfl) (fun _ _ _ h => h) (Or.inl ⟨by rfl, ?_⟩) ?_ ?_
                rotate_left
                · intro w'
                  go_simp
                  with_reducible rfl
                rotate_left
                · simp only [Act.put, List.setIfInBounds_toArray, List.set_cons_zero, List.set_cons_succ, i64_w, i32_w]
                  rfl
                refine pure_ (i := 6) (N := some 58) (v := ?_) (a' := ?_) #[true, true, true, false, true, true, true, false, false, false, false, false, false] rfl rfl (by kernel_rfl) (fun _ _ _ h => h) (Or.inl ⟨by rfl, ?_⟩) ?_ ?_
                rotate_left
                · intro w'
                  go_simp
                  with_reducible rfl
                rotate_left
                · simp only [Act.put, List.setIfInBounds_toArray, List.set_cons_zero, List.set_cons_succ, i64_w, i32_w]
                  rfl
                refine pure_ (i := 8) (N := some 60) (v := ?_) (a' := ?_) #[true, true, true, false, true, true, true, false, true, false, false, false, false] rfl rfl (by kernel_rfl) (fun _ _ _ h => h) (Or.inl ⟨by rfl, ?_⟩) ?_ ?_
                rotate_left
                · intro w'
                  go_simp
                  with_reducible rfl
                rotate_left
                · simp only [Act.put, List.setIfInBounds_toArray, List.set_cons_zero, List.set_cons_succ, i64_w, i32_w]
                  rfl
                refine pure_ (i := 10) (N := some 62) (v := ?_) (a' := ?_) #[true, true, true, false, true, true, true, false, true, false, true, false, false] rfl rfl (by kernel_rfl) (fun _ _ _ h => h) (Or.inl ⟨by rfl, ?_⟩) ?_ ?_
                rotate_left
                · intro w'
                  go_simp
                  with_reducible rfl
                rotate_left
                · simp only [Act.put, List.setIfInBounds_toArray, List.set_cons_zero, List.set_cons_succ, i64_w, i32_w]
                  rfl
                refine take_ (i := 3) (N := some 55) (v := ?_) (a' := ?_) #[true, true, true, true, true, true, true, false, true, false, true, false, false] rfl rfl (by kernel_rfl) (fun _ _ _ h => h) (Or.inl ⟨by rfl, ?_⟩) hHeld ?_ ?_
                rotate_left
                · rintro w' ⟨s0, s1⟩
                  go_simp
                  with_reducible rfl
                rotate_left
                · simp only [Act.put, List.setIfInBounds_toArray, List.set_cons_zero, List.set_cons_succ, i64_w, i32_w]
                  rfl
                refine take_ (i := 7) (N := some 59) (v := ?_) (a' := ?_) #[true, true, true, true, true, true, true, true, true, false, true, false, false] rfl rfl (by kernel_rfl) (fun _ _ _ h => h) (Or.inl ⟨by rfl, ?_⟩) hHeld ?_ ?_
                rotate_left
                · rintro w' ⟨s0, s1⟩
                  go_simp
                  with_reducible rfl
                rotate_left
                · simp only [Act.put, List.setIfInBounds_toArray, List.set_cons_zero, List.set_cons_succ, i64_w, i32_w]
                  rfl
                refine pure_ (i := 9) (N := some 61) (v := ?_) (a' := ?_) #[true, true, true, true, true, true, true, true, true, true, true, false, false] rfl rfl (by kernel_rfl) (fun _ _ _ h => h) (Or.inl ⟨by rfl, ?_⟩) ?_ ?_
                rotate_left
                · intro w'
                  go_simp
                  with_reducible rfl
                rotate_left
                · simp only [Act.put, List.setIfInBounds_toArray, List.set_cons_zero, List.set_cons_succ, i64_w, i32_w]
                  rfl
                refine one_ (i := 11) (N := some 63) #[true, true, true, true, true, true, true, true, true, true, true, true, false] rfl rfl (by kernel_rfl) (by decide) (fun K hK => ?_)
                refine goes_ Try.func26 (by kernel_rfl) rfl #[.pointer (some ⟨d, 0, none⟩), .int .i64 ((at_ + k : Nat) : Int), .string x] (by rfl) rfl rfl (Eq.trans (b := #[.pointer (some ⟨d, 0, none⟩), .int .i64 (wrap64 ((at_ : Int) + (k : Int))), .string x]) (by simp only [List.map_toArray, List.map_cons, List.map_nil]; rfl) (by rw [HWR.out])) ?_
                with_reducible refine (hW).mono ?_
                intro e w3 hM
                obtain ⟨rfl, v3, hD3, hF3, hP3⟩ := hM
                have hJ3 := hF3.blk HI.out.2.2.2.2.2.1 HNJ.out
                have z1 : w3.cell? ⟨j, 1, none⟩ = some (.int .i64 at_) := Blk.c hJ3 1
                have z0 : w3.cell? ⟨j, 0, none⟩ = some (.pointer (some ⟨d, 0, none⟩)) := Blk.c hJ3 0
                refine ⟨_, rfl, ?_⟩
                refine hK.out _ _ ⟨z1, z0⟩ (fun hHeld => ?_)
                clear hK K
                refine norm_ (a' := ?_) ?_ ?_
                rotate_left
                · show Act.put _ (some 63) _ = _
                  simp only [Act.put, List.setIfInBounds_toArray, List.set_cons_zero, List.set_cons_succ, i64_w, i32_w]
                  rfl
                refine pure_ (i := 12) (N := some 9) (v := ?_) (a' := ?_) #[true, true, true, true, true, true, true, true, true, true, true, true, true] rfl rfl (by kernel_rfl) (fun _ _ _ h => h) (Or.inl ⟨by rfl, ?_⟩) ?_ ?_
                rotate_left
                · intro w'
                  go_simp
                  with_reducible rfl
                rotate_left
                · simp only [Act.put, List.setIfInBounds_toArray, List.set_cons_zero, List.set_cons_succ, i64_w, i32_w]
                  rfl
                refine done_ (by kernel_rfl) ?_
                clear hHeld
                have HF : Hid (Z = wrL s3 (at_ + (k + 1)) (l.drop (k + 1)) ∧ DT w3 base d v1 v3 s3 ∧ Good n (m + (k + 1)) s3 ∧ Fr (DS d v1 v2) w1 w3 ∧ (∀ q, DS d v1 v3 q → DS d v1 v2 q ∨ w1.heap.size ≤ q) ∧ Blk w3 j #[.pointer (some ⟨d, 0, none⟩), .int .i64 at_, .int .i64 cnt] 144 ∧ Strs w3 w1.heap.size (.slice (some ⟨bq, 0, none⟩) l.length cl) l ∧ (∀ q, (Value.slice (some ⟨bq, 0, none⟩) l.length cl).ownBlock = some q → ¬ DS d v1 v3 q) ∧ ¬ DS d v1 v3 j) := hidI
                  ⟨hR2.out, hD3, HG3.out, HI.out.2.2.2.1.drew.trans hF3 (fun q hq h1 => by
                    rcases HI.out.2.2.2.2.1 q h1 with h2 | h2
                    · exact h2
                    · omega), fun q hq => by
                    rcases hP3 q hq with h1 | h1
                    · exact HI.out.2.2.2.2.1 q h1
                    · exact .inr (Nat.le_trans HI.out.2.2.2.1.size h1), hJ3, HI.out.2.2.2.2.2.2.1.drew.fr hF3 (fun q hq => HI.out.2.2.2.2.2.2.2.1 q hq), fun q hq h1 => by
                    rcases hP3 q h1 with h2 | h2
                    · exact HI.out.2.2.2.2.2.2.2.1 q hq h2
                    · have := HI.out.2.2.2.2.2.2.1.drew.lt hq; omega, fun h1 => by
                    rcases hP3 j h1 with h2 | h2
                    · exact HNJ.out h2
                    · have := HI.out.2.2.2.2.2.1.dr.lt; omega⟩
                clear hD3 hF3 hP3 hW hJ3 z1 z0 q1 q0 q
                go_wp2_with fail
                go_roundw
                · exact ⟨k + 1, s3, v3, by omega, by simp, HF⟩
                · simp [intOf]; omega
            · as_aux_lemma =>
                have hR2 : Hid (Z = wrS s' ((at_ + k : Nat) : Int) x) := hidI (by rw [hR.out, if_neg hr])
                rw [← hR2.out] at hW hr
                obtain ⟨z1_, z2_⟩ := Z
                have hrne : (z1_ != 0) = true := by simpa using hr
                have HRN : Hid (¬ z1_ = 0) := hidI hr
                simp only at hW
                clear hr hG'
                go_wp2_with fail
                refine start_ (n := 13) (S := fun w' => w'.cell? ⟨j, 1, none⟩ = some (.int .i64 at_) ∧ w'.cell? ⟨j, 0, none⟩ = some (.pointer (some ⟨d, 0, none⟩))) (ds := []) #[false, false, false, false, false, false, false, false, false, false, false, false, false] (by kernel_rfl) rfl rfl ⟨q1, q0⟩ (fun hHeld => ?_)
                refine pure_ (i := 0) (N := some 52) (v := ?_) (a' := ?_) #[true, false, false, false, false, false, false, false, false, false, false, false, false] rfl rfl (by kernel_rfl) (fun _ _ _ h => h) (Or.inl ⟨by rfl, ?_⟩) ?_ ?_
                rotate_left
                · intro w'
                  go_simp
                  with_reducible rfl
                rotate_left
                · simp only [Act.put, List.setIfInBounds_toArray, List.set_cons_zero, List.set_cons_succ, i64_w, i32_w]
                  rfl
                refine pure_ (i := 1) (N := some 53) (v := ?_) (a' := ?_) #[true, true, false, false, false, false, false, false, false, false, false, false, false] rfl rfl (by kernel_rfl) (fun _ _ _ h => h) (Or.inl ⟨by rfl, ?_⟩) ?_ ?_
                rotate_left
                · intro w'
                  go_simp
                  with_reducible rfl
                rotate_left
                · simp only [Act.put, List.setIfInBounds_toArray, List.set_cons_zero, List.set_cons_succ, i64_w, i32_w]
                  rfl
                refine pure_ (i := 2) (N := some 54) (v := ?_) (a' := ?_) #[true, true, true, false, false, false, false, false, false, false, false, false, false] rfl rfl (by kernel_rfl) (fun _ _ _ h => h) (Or.inl ⟨by rfl, ?_⟩) ?_ ?_
                rotate_left
                · intro w'
                  go_simp
                  with_reducible rfl
                rotate_left
                · simp only [Act.put, List.setIfInBounds_toArray, List.set_cons_zero, List.set_cons_succ, i64_w, i32_w]
                  rfl
                refine pure_ (i := 4) (N := some 56) (v := ?_) (a' := ?_) #[true, true, true, false, true, false, false, false, false, false, false, false, false] rfl rfl (by kernel_rfl) (fun _ _ _ h => h) (Or.inl ⟨by rfl, ?_⟩) ?_ ?_
                rotate_left
                · intro w'
                  go_simp
                  with_reducible rfl
                rotate_left
                · simp only [Act.put, List.setIfInBounds_toArray, List.set_cons_zero, List.set_cons_succ, i64_w, i32_w]
                  rfl
                refine pure_ (i := 5) (N := some 57) (v := ?_) (a' := ?_) #[true, true, true, false, true, true, false, false, false, false, false, false, false] rfl rfl (by kernel_rfl) (fun _ _ _ h => h) (Or.inl ⟨by rfl, ?_⟩) ?_ ?_
                rotate_left
                · intro w'
                  go_simp
                  with_reducible rfl
                rotate_left
                · simp only [Act.put, List.setIfInBounds_toArray, List.set_cons_zero, List.set_cons_succ, i64_w, i32_w]
                  rfl
                refine pure_ (i := 6) (N := some 58) (v := ?_) (a' := ?_) #[true, true, true, false, true, true, true, false, false, false, false, false, false] rfl rfl (by kernel_rfl) (fun _ _ _ h => h) (Or.inl ⟨by rfl, ?_⟩) ?_ ?_
                rotate_left
                · intro w'
                  go_simp
                  with_reducible rfl
                rotate_left
                · simp only [Act.put, List.setIfInBounds_toArray, List.set_cons_zero, List.set_cons_succ, i64_w, i32_w]
                  rfl
                refine pure_ (i := 8) (N := some 60) (v := ?_) (a' := ?_) #[true, true, true, false, true, true, true, false, true, false, false, false, false] rfl rfl (by kernel_rfl) (fun _ _ _ h => h) (Or.inl ⟨by rfl, ?_⟩) ?_ ?_
                rotate_left
                · intro w'
                  go_simp
                  with_reducible rfl
                rotate_left
                · simp only [Act.put, List.setIfInBounds_toArray, List.set_cons_zero, List.set_cons_succ, i64_w, i32_w]
                  rfl
                refine pure_ (i := 10) (N := some 62) (v := ?_) (a' := ?_) #[true, true, true, false, true, true, true, false, true, false, true, false, false] rfl rfl (by kernel_rfl) (fun _ _ _ h => h) (Or.inl ⟨by rfl, ?_⟩) ?_ ?_
                rotate_left
                · intro w'
                  go_simp
                  with_reducible rfl
                rotate_left
                · simp only [Act.put, List.setIfInBounds_toArray, List.set_cons_zero, List.set_cons_succ, i64_w, i32_w]
                  rfl
                refine take_ (i := 3) (N := some 55) (v := ?_) (a' := ?_) #[true, true, true, true, true, true, true, false, true, false, true, false, false] rfl rfl (by kernel_rfl) (fun _ _ _ h => h) (Or.inl ⟨by rfl, ?_⟩) hHeld ?_ ?_
                rotate_left
                · rintro w' ⟨s0, s1⟩
                  go_simp
                  with_reducible rfl
                rotate_left
                · simp only [Act.put, List.setIfInBounds_toArray, List.set_cons_zero, List.set_cons_succ, i64_w, i32_w]
                  rfl
                refine take_ (i := 7) (N := some 59) (v := ?_) (a' := ?_) #[true, true, true, true, true, true, true, true, true, false, true, false, false] rfl rfl (by kernel_rfl) (fun _ _ _ h => h) (Or.inl ⟨by rfl, ?_⟩) hHeld ?_ ?_
                rotate_left
                · rintro w' ⟨s0, s1⟩
                  go_simp
                  with_reducible rfl
                rotate_left
                · simp only [Act.put, List.setIfInBounds_toArray, List.set_cons_zero, List.set_cons_succ, i64_w, i32_w]
                  rfl
                refine pure_ (i := 9) (N := some 61) (v := ?_) (a' := ?_) #[true, true, true, true, true, true, true, true, true, true, true, false, false] rfl rfl (by kernel_rfl) (fun _ _ _ h => h) (Or.inl ⟨by rfl, ?_⟩) ?_ ?_
                rotate_left
                · intro w'
                  go_simp
                  with_reducible rfl
                rotate_left
                · simp only [Act.put, List.setIfInBounds_toArray, List.set_cons_zero, List.set_cons_succ, i64_w, i32_w]
                  rfl
                refine one_ (i := 11) (N := some 63) #[true, true, true, true, true, true, true, true, true, true, true, true, false] rfl rfl (by kernel_rfl) (by decide) (fun K hK => ?_)
                refine goes_ Try.func26 (by kernel_rfl) rfl #[.pointer (some ⟨d, 0, none⟩), .int .i64 ((at_ + k : Nat) : Int), .string x] (by rfl) rfl rfl (Eq.trans (b := #[.pointer (some ⟨d, 0, none⟩), .int .i64 (wrap64 ((at_ : Int) + (k : Int))), .string x]) (by simp only [List.map_toArray, List.map_cons, List.map_nil]; rfl) (by rw [HWR.out])) ?_
                with_reducible refine (hW).mono ?_
                intro e w3 hM
                obtain ⟨rfl, v3, hD3, hF3, hP3⟩ := hM
                have hJ3 := hF3.blk HI.out.2.2.2.2.2.1 HNJ.out
                have z1 : w3.cell? ⟨j, 1, none⟩ = some (.int .i64 at_) := Blk.c hJ3 1
                have z0 : w3.cell? ⟨j, 0, none⟩ = some (.pointer (some ⟨d, 0, none⟩)) := Blk.c hJ3 0
                refine ⟨_, rfl, ?_⟩
                refine hK.out _ _ ⟨z1, z0⟩ (fun hHeld => ?_)
                clear hK K
                refine norm_ (a' := ?_) ?_ ?_
                rotate_left
                · show Act.put _ (some 63) _ = _
                  simp only [Act.put, List.setIfInBounds_toArray, List.set_cons_zero, List.set_cons_succ, i64_w, i32_w]
                  rfl
                refine pure_ (i := 12) (N := some 9) (v := ?_) (a' := ?_) #[true, true, true, true, true, true, true, true, true, true, true, true, true] rfl rfl (by kernel_rfl) (fun _ _ _ h => h) (Or.inl ⟨by rfl, ?_⟩) ?_ ?_
                rotate_left
                · intro w'
                  go_simp
                  with_reducible rfl
                rotate_left
                · simp only [Act.put, List.setIfInBounds_toArray, List.set_cons_zero, List.set_cons_succ, i64_w, i32_w]
                  rfl
                refine done_ (by kernel_rfl) ?_
                have hfin : Hid (ApP base d j v1 v2 at_ cnt l.length (apF ⟨bs, ps, fuse, false⟩ at_ cnt p) w1 (.returned (.int .i64 z1_)) w3) := hidI (by
                  rw [HAP.out]
                  simp only [if_neg HRN.out]
                  unfold ApP
                  simp only [if_neg HRN.out]
                  refine ⟨trivial, v3, hD3, (HI.out.2.2.2.1.drew.trans hF3 (fun q hq h1 => by
                    rcases HI.out.2.2.2.2.1 q h1 with h2 | h2
                    · exact h2
                    · omega)).mono (fun q _ h => .inl h), fun q hq => ?_, hJ3⟩
                  rcases hP3 q hq with h1 | h1
                  · exact HI.out.2.2.2.2.1 q h1
                  · exact .inr (Nat.le_trans HI.out.2.2.2.1.size h1))
                clear hHeld hD3 hF3 hP3 hW hJ3 z1 z0 q1 q0 q
                go_wp2_with fail
                go_ret
                exact hfin.out
          · have g1 : decide ((k : Int) < (l.length : Int)) = false := decide_eq_false (by omega)
            obtain rfl : k = l.length := by omega
            have hR : Hid (Z = (0, s')) := hidI (by rw [HI.out.1, List.drop_length]; rfl)
            have hap2 : Hid (apF ⟨bs, ps, fuse, false⟩ at_ cnt p = syS s') := hidI (by rw [HAP.out, hR.out, if_pos rfl])
            have hS := sync_any base d v1 v2' s' wr HI.out.2.1 HI.out.2.2.1.fuse (by have := HI.out.2.2.1.few; omega) (by rw [HI.out.2.2.1.len]; exact HI.out.2.2.1.ins)
            obtain ⟨Y, hY⟩ : ∃ Y, Y = syS s' := ⟨_, rfl⟩
            rw [← hY] at hS
            have HY := hidI hY
            clear hY
            obtain ⟨y1, y2⟩ := Y
            simp only at hS
            go_wp2_with fail
            with_reducible refine hS.mono ?_
            rintro e w4 ⟨rfl, v3, hD4, hF4, hP4⟩
            have hJ4 := hF4.blk HI.out.2.2.2.2.2.1 HI.out.2.2.2.2.2.2.2.2
            have p1 : w4.cell? ⟨j, 1, none⟩ = some (.int .i64 at_) := Blk.c hJ4 1
            have p2 : w4.cell? ⟨j, 2, none⟩ = some (.int .i64 cnt) := Blk.c hJ4 2
            have pl := Blk.lt hJ4
            have pf := Blk.f hJ4
            have hF5 : Fr (DS d v1 v2) w1 w4 := HI.out.2.2.2.1.trans hF4 (fun q hq h1 => by
              rcases HI.out.2.2.2.2.1 q h1 with h2 | h2
              · exact h2
              · omega)
            have hP5 : ∀ q, DS d v1 v3 q → DS d v1 v2 q ∨ w1.heap.size ≤ q := fun q hq => by
              rcases hP4 q hq with h1 | h1
              · exact HI.out.2.2.2.2.1 q h1
              · exact .inr (Nat.le_trans HI.out.2.2.2.1.size h1)
            have HD4 := hidI hD4
            have HF5 := hidI hF5
            have HP5 := hidI hP5
            have HJ4 := hidI hJ4
            clear hD4 hF5 hP5 hF4 hP4 hJ4 hS q1 q0
            simp only []
            by_cases hy : y1 = 0
            · as_aux_lemma =>
                subst hy
                have HJ6 : Hid (Blk ((w4.setCell ⟨j, 1, none⟩ (.int .i64 ((at_ + l.length : Nat) : Int))).setCell ⟨j, 2, none⟩ (.int .i64 ((cnt + 1 : Nat) : Int))) j #[.pointer (some ⟨d, 0, none⟩), .int .i64 ((at_ + l.length : Nat) : Int), .int .i64 ((cnt + 1 : Nat) : Int)] 144) := hidI (by
                  have := Blk.st (Blk.st HJ4.out 1 (.int .i64 ((at_ + l.length : Nat) : Int))) 2 (.int .i64 ((cnt + 1 : Nat) : Int))
                  exact this)
                have HNJ4 : Hid (¬ DS d v1 v3 j) := hidI (notDSj HD4.out HJ4.out)
                have hfin : Hid (ApP base d j v1 v2 at_ cnt l.length (apF ⟨bs, ps, fuse, false⟩ at_ cnt p) w1 (.returned (.int .i64 0)) ((w4.setCell ⟨j, 1, none⟩ (.int .i64 ((at_ + l.length : Nat) : Int))).setCell ⟨j, 2, none⟩ (.int .i64 ((cnt + 1 : Nat) : Int))).drew) := hidI (by
                  have hF6 : Fr (fun k => k = j) w4 ((w4.setCell ⟨j, 1, none⟩ (.int .i64 ((at_ + l.length : Nat) : Int))).setCell ⟨j, 2, none⟩ (.int .i64 ((cnt + 1 : Nat) : Int))) := ((Fr.refl (fun k => k = j) w4).setCell (p := ⟨j, 1, none⟩) (fun _ => rfl) _).setCell (p := ⟨j, 2, none⟩) (fun _ => rfl) _
                  rw [hap2.out, ← HY.out]
                  refine ⟨rfl, v3, (HD4.out.fr hF6 (fun q hq e => HNJ4.out (by rw [← e]; exact hq))).below (Below.refl _ _).drew, ?_, HP5.out, ?_⟩
                  · exact ((HF5.out.mono (fun q _ h => Or.inl h)).trans hF6 (fun q _ h => .inr h)).drew
                  · rw [if_pos rfl, if_pos rfl]; exact Blk.dr HJ6.out)
                have s1 : wrap64 ((at_ : Int) + (l.length : Int)) = ((at_ + l.length : Nat) : Int) := by unfold wrap64; omega
                have s2 : wrap64 ((cnt : Int) + 1) = ((cnt + 1 : Nat) : Int) := by unfold wrap64; omega
                have HS1 := hidI s1
                have HS2 := hidI s2
                clear s1 s2
                go_wp2_with fail
                go_region
                go_wp2_with fail
                go_ret
                first | exact hfin.out | (simpa using hfin.out)
            · as_aux_lemma =>
                have hy1 : (y1 != 0) = true := by simpa using hy
                have hfin : Hid (ApP base d j v1 v2 at_ cnt l.length (apF ⟨bs, ps, fuse, false⟩ at_ cnt p) w1 (.returned (.int .i64 y1)) w4) := hidI (by
                  rw [hap2.out, ← HY.out]
                  unfold ApP
                  simp only [if_neg hy]
                  exact ⟨trivial, v3, HD4.out, HF5.out.mono (fun q _ h => .inl h), HP5.out, HJ4.out⟩)
                clear hy
                go_wp2_with fail
                go_ret
                exact hfin.out
    · as_aux_lemma =>
        have hr1 : r = 1 := by
          have := packF_err (n := (cnt : Int)) (L := bl p) (by rw [hpk]; exact hr)
          rw [hpk] at this; exact this
        have hap : apF ⟨bs, ps, fuse, false⟩ at_ cnt p = (1, ⟨bs, ps, fuse, false⟩) := by
          unfold apF; rw [if_neg (show ¬ (false = true) by decide), hpk, if_neg hr]
        have HAP := hidI hap
        subst hr1
        clear hap hnl hplen hpk hr
        go_enter Try.func45, Try.ntmps45
        go_wp2_with fail
        with_reducible refine hdead.mono ?_
        rintro e w1 ⟨rfl, hw1⟩
        subst hw1
        simp only []
        go_wp2_with fail
        with_reducible refine hpo.mono ?_
        rintro e w2 ⟨vl, rfl, hS2, hb2⟩
        obtain ⟨Al, cl, rfl, _⟩ := hS2.slice_
        have hfin : Hid (ApP base d j v1 v2 at_ cnt l.length (apF ⟨bs, ps, fuse, false⟩ at_ cnt p) w1 (.returned (.int .i64 1)) w2) := hidI (by
          rw [HAP.out]
          exact ⟨rfl, v2, HD.out.below hb2, Fr.of_below hb2, fun q hq => .inl hq, HJ.out.be hb2⟩)
        clear hS2 hb2 q2 hdead hpo q1 q0
        simp only []
        go_wp2_with fail
        go_ret
        exact hfin.out
  · as_aux_lemma =>
      have hap : apF ⟨bs, ps, fuse, true⟩ at_ cnt p = (7, ⟨bs, ps, fuse, true⟩) := by
        unfold apF; rw [if_pos rfl]
      have hfin : Hid (ApP base d j v1 v2 at_ cnt (packF cnt (bl p)).1.length (apF ⟨bs, ps, fuse, true⟩ at_ cnt p) w (.returned (.int .i64 7)) w) := hidI (by
        rw [hap]
        exact ⟨rfl, v2, HD.out, Fr.refl _ _, fun q hq => .inl hq, HJ.out⟩)
      clear hap hnl
      go_enter Try.func45, Try.ntmps45
      go_wp2_with fail
      with_reducible refine hdead.mono ?_
      rintro e w1 ⟨rfl, hw1⟩
      subst hw1
      simp only []
      go_wp2_with fail
      go_ret
      exact hfin.out
end Go.Proofs.Ytckfkbmefdmedaa
namespace Go.Proofs.Ytckfkbmefdmedaa
open Go.RowKit Go.Proofs.Kq Go.Proofs.Ytckfkbmefdmedaa.Q
open Go.Proofs.YtckfkbmefdmedaaW.PrintWords (pw_cell_below Kd Kd.C Kd.C_below Kd.R Kd.own_of_R)
open Go.Proofs.YtckfkbmefdmedaaW.PrintLast
set_option linter.unusedVariables false
set_option linter.unusedSimpArgs false
def ArP (base g j : Nat) (ua ub vr : Value) (at_ : Nat) (R : List ByteArray) (p : ByteArray) (len : Nat) (r : Int × DkS) (w : World) (e : Ending) (w' : World) : Prop :=
  e = .returned (.int .i64 r.1) ∧ ∃ ub' vr', ET w' base g ua ub' r.2 ∧ Fr (fun q => ES g ua ub q ∨ q = j ∨ vr.ownBlock = some q) w w' ∧ (∀ q, ES g ua ub' q → ES g ua ub q ∨ w.heap.size ≤ q) ∧
    KB w' j g vr' (if r.1 = 0 then at_ + len else at_) ∧ Strs w' base vr' (if r.1 = 0 then R ++ [p] else R) ∧ (∀ q, vr'.ownBlock = some q → vr.ownBlock = some q ∨ w.heap.size ≤ q) ∧ ∀ q, vr'.ownBlock = some q → ¬ ES g ua ub' q
end Go.Proofs.Ytckfkbmefdmedaa
namespace Go.Proofs.Ytckfkbmefdmedaa.Q
open Go.RowKit Go.Proofs.YtckfkbmefdmedaaW.PrintWords Go.Proofs.YtckfkbmefdmedaaW.PrintLast Go.Proofs.YtckfkbmefdmedaaW.PrintMore
attribute [local go_sem] max2_int min2_int max_two min_two max_three min_three max_four min_four   -- for this text's walks alone
set_option linter.unusedVariables false
set_option linter.unusedSimpArgs false
def souklaw06_small.l0 : Nat → List ByteArray → Int → List ByteArray → Int → Int → Option (Bool)
 | 0, _, _, _, _, _ => none
 | k + 1, x0, x3, x6, x7, x8 => if x8 < x7 then (if 0 ≤ x8 then (if x8 < (x6.length : Int) then (souklaw06_small.l0 k x0 (wrap64 (x3 + (wrap64 (1 + ((rdOf ByteArray.empty x6 x8).size : Int))))) x6 x7 (wrap64 (x8 + 1))) else (none)) else (none)) else (if x3 ≤ 4000 then (some (decide ((x0.length : Int) ≤ 30))) else (some false))
def souklaw06_small.f (k : Nat) (l0 : List ByteArray) : Option (Bool) := souklaw06_small.l0 k l0 0 l0 (l0.length : Int) 0
set_option maxHeartbeats 8000000 in
set_option maxRecDepth 100000 in
theorem souklaw06_small.calls (k : Nat) (A0 : Option Addr) (c0 : Nat) (l0 : List ByteArray) (r : Bool) (w : World) (hr0 : Kd.C Kd.string w A0 l0.length l0) (hc0 : l0.length ≤ c0) (h : souklaw06_small.f k l0 = some r) :
  Calls Try.prog 42 #[.slice A0 l0.length c0] w fun e w' => e = .returned (.bool r) ∧ Drawn0 w w' := by
 have HR0 := Aside0.mk hr0
 have HC0 := Aside0.mk hc0
 clear hr0 hc0
 have H : (souklaw06_small.l0 k l0 0 l0 (l0.length : Int) 0) = some r := h
 clear h
 have H' := Aside0.mk H
 clear H
 go_enter Try.func42, Try.ntmps42
 go_wp2
 go_loopg [3, 8] k (fun kq v3 v8 w' => ∃ (x3_1 : Int) (x8_1 : Int), v3 = .int .i64 x3_1 ∧ v8 = .int .i64 x8_1 ∧ Aside0 (souklaw06_small.l0 kq l0 x3_1 l0 (l0.length : Int) x8_1 = some r) ∧ Aside0 (kq ≤ k) ∧ Drawn0 w w')
 case atStart => exact ⟨(0), (0), (by first | rfl | (simp; done) | (simp [*]; done)), (by first | rfl | (simp; done) | (simp [*]; done)), H', ⟨Nat.le_refl _⟩, by repeat (first | exact Drawn0.refl _ | apply Drawn0.step)⟩
 case round =>
  clear H'
  obtain ⟨x3_1, x8_1, rfl, rfl, HA, HK1, ⟨m1, rfl⟩⟩ := hrel
  cases gk with
  | zero => exact absurd HA.out (by simp [souklaw06_small.l0])
  | succ k1 =>
   have H := HA.out
   clear HA
   simp only [souklaw06_small.l0] at H
   by_cases c2 : x8_1 < (l0.length : Int)
   ·rw [if_pos c2] at H
    have c2b0 : decide (x8_1 < (l0.length : Int)) = true := decide_eq_true c2
    clear c2
    by_cases c3 : 0 ≤ x8_1
    ·rw [if_pos c3] at H
     have c3b0 : decide (0 ≤ x8_1) = true := decide_eq_true c3
     clear c3
     by_cases c4 : x8_1 < (l0.length : Int)
     ·rw [if_pos c4] at H
      have c4b0 : decide (x8_1 < (l0.length : Int)) = true := decide_eq_true c4
      clear c4
      have H' := Aside0.mk H
      clear H
      have p213 : 0 ≤ (x8_1 : Int) := of_decide_eq_true (by first | (with_reducible assumption) | assumption)
      have q213 : x8_1 < (l0.length : Int) := of_decide_eq_true (by first | (with_reducible assumption) | assumption)
      obtain ⟨ad213, e213, hx213_0⟩ := Kd.at_string HR0.out x8_1 p213 q213
      cases e213
      replace p213 := eq_true p213
      replace q213 := eq_true q213
      go_wp2
      go_roundg k1
      case measure => have := HK1.out; omega
      case rel => exact ⟨(wrap64 (x3_1 + (wrap64 (1 + ((rdOf ByteArray.empty l0 x8_1).size : Int))))), (wrap64 (x8_1 + 1)), (by first | rfl | (simp; done) | (simp [*]; done)), (by first | rfl | (simp; done) | (simp [*]; done)), H', ⟨by have := HK1.out; omega⟩, by repeat (first | exact Drawn0.refl _ | apply Drawn0.step)⟩
     ·rw [if_neg c4] at H
      exact absurd H (by simp)
    ·rw [if_neg c3] at H
     exact absurd H (by simp)
   ·rw [if_neg c2] at H
    have c2b0 : decide (x8_1 < (l0.length : Int)) = false := decide_eq_false c2
    clear c2
    by_cases c5 : x3_1 ≤ 4000
    ·rw [if_pos c5] at H
     have c5b0 : decide (x3_1 ≤ 4000) = true := decide_eq_true c5
     clear c5
     obtain rfl := Option.some.inj H
     go_wp2
     go_ret
     exact ⟨by first | rfl | (simp; done) | (simp [*]; done), by repeat (first | exact Drawn0.refl _ | apply Drawn0.step)⟩
    ·rw [if_neg c5] at H
     have c5b0 : decide (x3_1 ≤ 4000) = false := decide_eq_false c5
     clear c5
     obtain rfl := Option.some.inj H
     go_wp2
     go_ret
     exact ⟨by first | rfl | (simp; done) | (simp [*]; done), by repeat (first | exact Drawn0.refl _ | apply Drawn0.step)⟩
end Go.Proofs.Ytckfkbmefdmedaa.Q
set_option linter.unusedVariables false
set_option linter.unusedSimpArgs false
namespace Go.Proofs.YtckfkbmefdmedaaW.PrintLast
variable {P : Program} {ops : Array Oper} {Q : Exit → Act → World → Prop} {md : Region.Mode} {S' : World → Prop} {ds' : List Nat}
end Go.Proofs.YtckfkbmefdmedaaW.PrintLast
namespace Go.Proofs.Ytckfkbmefdmedaa
open Go.RowKit Go.Proofs.Kq Go.Proofs.Ytckfkbmefdmedaa.Q
open Go.Proofs.YtckfkbmefdmedaaW.PrintWords (pw_cell_below Kd Kd.C Kd.C_below Kd.R Kd.own_of_R)
set_option linter.unusedVariables false
set_option linter.unusedSimpArgs false
structure BJ (w wr : World) (d j : Nat) (v1 v2 : Value) (s : DkS) (at_ cnt : Nat) : Prop where
  D : DT wr w.heap.size d v1 v2 s
  J : JB wr j d at_ cnt
  bel : Below w.heap.size w wr
  hd : w.heap.size ≤ d
  hj : w.heap.size ≤ j
def PS (d j : Nat) (v1 v2 : Value) : Nat → Prop := fun q => DS d v1 v2 q ∨ q = j
section
variable {w wr w' : World} {d j : Nat} {v1 v2 : Value} {s : DkS} {at_ cnt : Nat}
theorem BJ.below (h : BJ w wr d j v1 v2 s at_ cnt) (hb : Below wr.heap.size wr w') : BJ w w' d j v1 v2 s at_ cnt :=
  ⟨h.D.below hb, Blk.be h.J hb, below_step h.bel hb, h.hd, h.hj⟩
theorem BJ.fr {S : Nat → Prop} (h : BJ w wr d j v1 v2 s at_ cnt) (hf : Fr S wr w') (hS : ∀ q, PS d j v1 v2 q → ¬ S q) (hg : ∀ q, S q → w.heap.size ≤ q) : BJ w w' d j v1 v2 s at_ cnt :=
  ⟨h.D.fr hf (fun q hq => hS q (.inl hq)), hf.blk h.J (hS j (.inr rfl)), h.bel.trans (Fr.toB hf hg h.bel.size), h.hd, h.hj⟩
theorem BJ.lt (h : BJ w wr d j v1 v2 s at_ cnt) {q : Nat} (hq : PS d j v1 v2 q) : q < wr.heap.size := by
  rcases hq with hq | rfl
  · exact DS_lt h.D hq
  · exact Blk.lt h.J
theorem BJ.ge (h : BJ w wr d j v1 v2 s at_ cnt) {q : Nat} (hq : PS d j v1 v2 q) : w.heap.size ≤ q := by
  rcases hq with hq | rfl
  · exact DS_ge h.D h.hd hq
  · exact h.hj
def apAt (r : Int × DkS) (at_ len : Nat) : Nat := if r.1 = 0 then at_ + len else at_
def apCnt (r : Int × DkS) (cnt : Nat) : Nat := if r.1 = 0 then cnt + 1 else cnt
theorem BJ.ap {len : Nat} {r : Int × DkS} {e : Ending} (h : BJ w wr d j v1 v2 s at_ cnt) (hA : ApP w.heap.size d j v1 v2 at_ cnt len r wr e w') :
    e = .returned (.int .i64 r.1) ∧ ∃ v2', BJ w w' d j v1 v2' r.2 (apAt r at_ len) (apCnt r cnt) ∧ Fr (PS d j v1 v2) wr w' ∧ ∀ q, PS d j v1 v2' q → PS d j v1 v2 q ∨ wr.heap.size ≤ q := by
  obtain ⟨rfl, v2', hD, hF, hP, hJ⟩ := hA
  refine ⟨rfl, v2', ⟨hD, hJ, h.bel.trans (Fr.toB hF (fun q hq => h.ge hq) h.bel.size), h.hd, h.hj⟩, hF, fun q hq => ?_⟩
  rcases hq with hq | hq
  · rcases hP q hq with h1 | h1
    · exact .inl (.inl h1)
    · exact .inr h1
  · exact .inl (.inr hq)
end
structure BR (w wr : World) (g k : Nat) (ua ub vr : Value) (t : DkS) (atr : Nat) (R : List ByteArray) : Prop where
  E : ET wr w.heap.size g ua ub t
  K : KB wr k g vr atr
  S : Strs wr w.heap.size vr R
  rn : ∀ q, vr.ownBlock = some q → ¬ ES g ua ub q
  bel : Below w.heap.size w wr
  hg : w.heap.size ≤ g
  hk : w.heap.size ≤ k
def QS (g k : Nat) (ua ub vr : Value) : Nat → Prop := fun q => ES g ua ub q ∨ q = k ∨ vr.ownBlock = some q
section
variable {w wr w' : World} {g k : Nat} {ua ub vr : Value} {t : DkS} {atr : Nat} {R : List ByteArray}
theorem BR.below (h : BR w wr g k ua ub vr t atr R) (hb : Below wr.heap.size wr w') : BR w w' g k ua ub vr t atr R :=
  ⟨h.E.below hb, Blk.be h.K hb, h.S.below hb, h.rn, below_step h.bel hb, h.hg, h.hk⟩
theorem BR.fr {S : Nat → Prop} (h : BR w wr g k ua ub vr t atr R) (hf : Fr S wr w') (hS : ∀ q, QS g k ua ub vr q → ¬ S q) (hg : ∀ q, S q → w.heap.size ≤ q) : BR w w' g k ua ub vr t atr R :=
  ⟨h.E.fr hf (fun q hq => hS q (.inl hq)), hf.blk h.K (hS k (.inr (.inl rfl))), h.S.fr hf (fun q hq => hS q (.inr (.inr hq))), h.rn, h.bel.trans (Fr.toB hf hg h.bel.size), h.hg, h.hk⟩
theorem BR.lt (h : BR w wr g k ua ub vr t atr R) {q : Nat} (hq : QS g k ua ub vr q) : q < wr.heap.size := by
  rcases hq with hq | rfl | hq
  · exact ES_lt h.E hq
  · exact Blk.lt h.K
  · exact h.S.lt hq
theorem BR.ge (h : BR w wr g k ua ub vr t atr R) {q : Nat} (hq : QS g k ua ub vr q) : w.heap.size ≤ q := by
  rcases hq with hq | rfl | hq
  · exact ES_ge h.E h.hg hq
  · exact h.hk
  · exact h.S.ge hq
def apR (r : Int × DkS) (R : List ByteArray) (p : ByteArray) : List ByteArray := if r.1 = 0 then R ++ [p] else R
theorem BR.ap {p : ByteArray} {len : Nat} {r : Int × DkS} {e : Ending} (h : BR w wr g k ua ub vr t atr R) (hA : ArP w.heap.size g k ua ub vr atr R p len r wr e w') :
    e = .returned (.int .i64 r.1) ∧ ∃ ub' vr', BR w w' g k ua ub' vr' r.2 (apAt r atr len) (apR r R p) ∧ Fr (QS g k ua ub vr) wr w' ∧ ∀ q, QS g k ua ub' vr' q → QS g k ua ub vr q ∨ wr.heap.size ≤ q := by
  obtain ⟨rfl, ub', vr', hE, hF, hP, hK, hS, hN, hM⟩ := hA
  refine ⟨rfl, ub', vr', ⟨hE, hK, hS, hM, h.bel.trans (Fr.toB hF (fun q hq => h.ge hq) h.bel.size), h.hg, h.hk⟩, hF, fun q hq => ?_⟩
  rcases hq with hq | hq | hq
  · rcases hP q hq with h1 | h1
    · exact .inl (.inl h1)
    · exact .inr h1
  · exact .inl (.inr (.inl hq))
  · rcases hN q hq with h1 | h1
    · exact .inl (.inr (.inr h1))
    · exact .inr h1
end
theorem jn_good {bs : List ByteArray} (h : All64 bs) : Good bs.length 0 ⟨bs, [], -1, false⟩ :=
  ⟨rfl, h, fun p hp => by simp at hp, fun p hp => by simp at hp, Nat.le_refl _, by show (-9223372036854775808 : Int) ≤ -1 ∧ (-1 : Int) ≤ 9223372036854775807; decide⟩
theorem opn_new (n : Nat) (f : Int) : erL ⟨List.replicate n e64, [], f, false⟩ 0 false ((List.replicate n e64).drop 0) = (0, ⟨List.replicate n e64, [], f, false⟩) :=
  erL_same _ _ _ (fun x hx => List.eq_of_mem_replicate (List.mem_of_mem_drop hx))
theorem all64_new (n : Nat) : All64 (List.replicate n e64) := fun b hb => by rw [List.eq_of_mem_replicate hb]; exact e64_size
theorem BJ.open_ {w w1 w2 : World} {d : Nat} {v1 v2 : Value} {bs R : List ByteArray} {a : Nat} {e : Ending} {s : DkS} (hb : Below w.heap.size w w1) (hd : w.heap.size ≤ d) (hD : DT w1 w.heap.size d v1 v2 ⟨bs, [], -1, false⟩) (hO : OpP w.heap.size d v1 v2 R a (0, s) w1 e w2) :
    ∃ v2' j vr, e = .returned (.tuple #[.pointer (some ⟨j, 0, none⟩), vr, .int .i64 0]) ∧ BJ w w2 d j v1 v2' s a R.length ∧ Strs w2 w1.heap.size vr R ∧ (∀ q, vr.ownBlock = some q → ¬ PS d j v1 v2' q) ∧ Fr (DS d v1 v2) w1 w2 ∧ ∀ q, PS d j v1 v2' q → DS d v1 v2 q ∨ w1.heap.size ≤ q := by
  obtain ⟨v2', pj, vr, rfl, hD2, hF, hP, hj⟩ := hO
  obtain ⟨j, rfl, hj1, hj2, hj3, hj4⟩ := hj rfl
  refine ⟨v2', j, vr, rfl, ⟨hD2, hj2, hb.trans (Fr.toB hF (fun q hq => DS_ge hD hd hq) hb.size), hd, Nat.le_trans hb.size hj1⟩, hj3, fun q hq hn => ?_, hF, fun q hq => ?_⟩
  · rcases hn with hn | rfl
    · exact hj4 q hq hn
    · exact hj3.ne hj2 (by decide) hq
  · rcases hq with hq | rfl
    · exact hP q hq
    · exact .inr hj1
theorem BR.open_ {w w1 w2 : World} {g : Nat} {ua ub : Value} {bs R : List ByteArray} {a : Nat} {e : Ending} {s : DkS} (hb : Below w.heap.size w w1) (hd : w.heap.size ≤ g) (hD : ET w1 w.heap.size g ua ub ⟨bs, [], -1, false⟩) (hO : RoP w.heap.size g ua ub R a (0, s) w1 e w2) :
    ∃ ub' k vr, e = .returned (.tuple #[.pointer (some ⟨k, 0, none⟩), .int .i64 0]) ∧ BR w w2 g k ua ub' vr s a R ∧ Fr (ES g ua ub) w1 w2 ∧ ∀ q, QS g k ua ub' vr q → ES g ua ub q ∨ w1.heap.size ≤ q := by
  obtain ⟨ub', pj, rfl, hD2, hF, hP, hj⟩ := hO
  obtain ⟨k, vr, rfl, hj1, hj2, hj3, hj4⟩ := hj rfl
  refine ⟨ub', k, vr, rfl, ⟨hD2, hj2, hj3.lower hb.size, hj4, hb.trans (Fr.toB hF (fun q hq => ES_ge hD hd hq) hb.size), hd, Nat.le_trans hb.size hj1⟩, hF, fun q hq => ?_⟩
  rcases hq with hq | rfl | hq
  · exact hP q hq
  · exact .inr hj1
  · exact .inr (hj3.ge hq)
end Go.Proofs.Ytckfkbmefdmedaa
namespace Go.Proofs.Ytckfkbmefdmedaa
open Go.RowKit Go.Proofs.Kq Go.Proofs.Ytckfkbmefdmedaa.Q
open Go.Proofs.YtckfkbmefdmedaaW.PrintWords (pw_cell_below Kd Kd.C Kd.C_below Kd.R Kd.own_of_R)
set_option linter.unusedVariables false
set_option linter.unusedSimpArgs false
theorem ap_good {bs R : List ByteArray} {at_ : Nat} (h : Jn bs R at_) (h64 : All64 bs) (p : ByteArray) (c : Nat) (hc : cntL (bl p).length = c) (h1 : 0 < c) (h2 : c ≤ 255) (hR : R.length < 1000000) (hfit : at_ + c ≤ bs.length) :
    ∃ bs', apF ⟨bs, [], -1, false⟩ at_ R.length p = (0, ⟨bs', [], -1, false⟩) ∧ bs'.length = bs.length ∧ Jn bs' (R ++ [p]) (at_ + c) ∧ (packF (R.length : Int) (bl p)).1.length = c ∧ All64 bs' := by
  have hp : packF (R.length : Int) (bl p) = (blkR (R.length : Int) (bl p) c 0 c, 0) := by
    unfold packF; rw [hc, if_neg (by omega)]
  have hl : (packF (R.length : Int) (bl p)).1.length = c := by rw [hp]; exact blkR_len _ _ _ _ _
  have hg := (apF_good (jn_good h64) at_ R.length p).b64
  have e := apF_ok h (-1) (by omega) p
  rw [hp, if_pos rfl, if_neg (by rw [blkR_len]; omega)] at e
  rw [e] at hg
  have hm := h.more p _ hp (by rw [blkR_len]; omega)
  rw [blkR_len] at hm
  refine ⟨_, e, ?_, by rw [blkR_len]; exact hm, hl, hg⟩
  simp only [List.length_append, List.length_take, List.length_drop, blkR_len]; omega
def pA : ByteArray := ⟨(Lib.repeatL [97] 10).toArray⟩
def pB : ByteArray := ⟨(Lib.repeatL [98] 60).toArray⟩
theorem pA_len : (bl pA).length = 10 := by unfold pA bl; simp [Lib.repeatL_length]
theorem pB_len : (bl pB).length = 60 := by unfold pB bl; simp [Lib.repeatL_length]
theorem rep_pA : strings_Repeat.f ⟨#[97]⟩ 10 = some pA := by
  unfold strings_Repeat.f
  rw [if_pos ⟨by omega, by omega, by show 1 * _ ≤ _; omega⟩]
  have e1 : (10 : Int).toNat = 10 := rfl
  have e2 : (⟨#[97]⟩ : ByteArray).data.toList = [97] := rfl
  rw [e1, e2]; unfold pA; rfl
theorem rep_pB : strings_Repeat.f ⟨#[98]⟩ 60 = some pB := by
  unfold strings_Repeat.f
  rw [if_pos ⟨by omega, by omega, by show 1 * _ ≤ _; omega⟩]
  have e1 : (60 : Int).toNat = 60 := rfl
  have e2 : (⟨#[98]⟩ : ByteArray).data.toList = [98] := rfl
  rw [e1, e2]; unfold pB; rfl
set_option maxHeartbeats 4000000 in
set_option maxRecDepth 100000 in
theorem lives06_any (w : World) : Calls Try.prog 41 #[] w fun e w' => e = .returned (.bool true) ∧ Below w.heap.size w w' := by
  have hN : Calls Try.prog 23 #[.int .i64 9] w (NwP 9 w) := new_any 9 w (by omega)
  go_enter Try.func41, Try.ntmps41
  go_wp2_with fail
  with_reducible refine hN.mono ?_
  rintro e w1 ⟨d, v1, rfl, hD1, hd, hb1⟩
  have HD1 := hidI hD1
  have HB1 := hidI hb1
  obtain ⟨b0, hb0⟩ : ∃ b0, b0 = List.replicate 9 e64 := ⟨_, rfl⟩
  have HJ0 : Hid (Jn b0 [] 0) := hidI (by rw [hb0]; exact jn_new 9)
  have HA0 : Hid (All64 b0) := hidI (by rw [hb0]; exact all64_new 9)
  have hl0 : b0.length = 9 := by rw [hb0]; simp
  have HL0 := hidI hl0
  have HO : Hid (Calls Try.prog 43 #[.pointer (some ⟨d, 0, none⟩)] w1 (OpP w.heap.size d v1 (.slice none 0 0) [] 0 (0, ⟨b0, [], -1, false⟩) w1)) := hidI (by
    have := open_any w.heap.size d v1 (.slice none 0 0) b0 [] (-1) 0 0 w1 (by rw [hb0]; exact HD1.out) (jn_good HA0.out) hb1.size (by omega) (by omega) (HJ0.out.end_ (by omega))
    have e : erL ⟨b0, [], -1, false⟩ 0 false (b0.drop 0) = (0, ⟨b0, [], -1, false⟩) := by rw [hb0]; exact opn_new 9 (-1)
    rw [e] at this
    exact this)
  have HDb : Hid (DT w1 w.heap.size d v1 (.slice none 0 0) ⟨b0, [], -1, false⟩) := hidI (by rw [hb0]; exact HD1.out)
  clear hN hD1 hb1 hb0 hl0 HD1
  simp only []
  go_wp2_with fail
  with_reducible refine HO.out.mono ?_
  intro e w2 hO2
  obtain ⟨v2, j, vr0, rfl, hB2, hS2, _, hF2, _⟩ := BJ.open_ HB1.out hd HDb.out hO2
  have HB2 := hidI hB2
  obtain ⟨A0, c0, rfl, _⟩ := hS2.slice_
  clear hO2 hB2 hS2 hF2 HO HDb HB1
  simp only []
  go_wp2_with fail
  with_reducible refine (strings_Repeat.calls ⟨#[97]⟩ 10 pA w2 rep_pA).mono ?_
  rintro e w3 ⟨rfl, hb3⟩
  have HB3 : Hid (BJ w w3 d j v1 v2 ⟨b0, [], -1, false⟩ 0 0) := hidI (HB2.out.below hb3)
  obtain ⟨b1, he1, hl1, hj1, hp1, h641⟩ := ap_good HJ0.out HA0.out pA 1 (by rw [pA_len]; rfl) (by omega) (by omega) (by simp) (by rw [HL0.out]; omega)
  rw [List.length_nil] at he1 hp1
  have HA : Hid (Calls Try.prog 45 #[.pointer (some ⟨j, 0, none⟩), .string pA] w3 (ApP w.heap.size d j v1 v2 0 0 1 (0, ⟨b1, [], -1, false⟩) w3)) := hidI (by
    have := jappend_any w.heap.size d j v1 v2 ⟨b0, [], -1, false⟩ 0 0 9 0 pA w3 HB3.out.D HB3.out.J (by have := jn_good HA0.out; rwa [HL0.out] at this) HB3.out.bel.size (by omega) (by omega) (by omega) (by omega) (by rw [ba_size, pA_len]; omega)
    rw [hp1, he1] at this
    exact this)
  have HJ1 := hidI hj1
  have HA1 := hidI h641
  have HL1 : Hid (b1.length = 9) := hidI (hl1.trans HL0.out)
  clear hb3 he1 hl1 hj1 hp1 h641 HB2
  simp only []
  go_wp2_with fail
  with_reducible refine HA.out.mono ?_
  intro e w4 hA4
  obtain ⟨rfl, v3, hB4, _, _⟩ := HB3.out.ap hA4
  have HB4 : Hid (BJ w w4 d j v1 v3 ⟨b1, [], -1, false⟩ 1 1) := hidI hB4
  clear hA4 hB4 HA HB3
  simp only []
  go_wp2_with fail
  with_reducible refine (strings_Repeat.calls ⟨#[98]⟩ 60 pB w4 rep_pB).mono ?_
  rintro e w5 ⟨rfl, hb5⟩
  have HB5 : Hid (BJ w w5 d j v1 v3 ⟨b1, [], -1, false⟩ 1 1) := hidI (HB4.out.below hb5)
  obtain ⟨b2, he1, hl1, hj1, hp1, h641⟩ := ap_good HJ1.out HA1.out pB 2 (by rw [pB_len]; rfl) (by omega) (by omega) (by simp) (by rw [HL1.out]; omega)
  obtain ⟨R2, hR2⟩ : ∃ R2, R2 = [] ++ [pA] ++ [pB] := ⟨_, rfl⟩
  have hR2l : R2.length = 2 := by rw [hR2]; rfl
  rw [← hR2] at hj1
  have hone : ([] ++ [pA] : List ByteArray).length = 1 := rfl
  rw [hone] at he1 hp1
  have HA : Hid (Calls Try.prog 45 #[.pointer (some ⟨j, 0, none⟩), .string pB] w5 (ApP w.heap.size d j v1 v3 1 1 2 (0, ⟨b2, [], -1, false⟩) w5)) := hidI (by
    have := jappend_any w.heap.size d j v1 v3 ⟨b1, [], -1, false⟩ 1 1 9 0 pB w5 HB5.out.D HB5.out.J (by have := jn_good HA1.out; rwa [HL1.out] at this) HB5.out.bel.size (by omega) (by omega) (by omega) (by omega) (by rw [ba_size, pB_len]; omega)
    rw [hp1, he1] at this
    exact this)
  have HJ2 := hidI hj1
  have HL2 : Hid (b2.length = 9) := hidI (hl1.trans HL1.out)
  have HR2 := hidI hR2l
  clear hb5 he1 hl1 hj1 hp1 h641 HB4 hR2 hone hR2l
  simp only []
  go_wp2_with fail
  with_reducible refine HA.out.mono ?_
  intro e w6 hA6
  obtain ⟨rfl, v4, hB6, _, _⟩ := HB5.out.ap hA6
  have HB6 : Hid (BJ w w6 d j v1 v4 ⟨b2, [], -1, false⟩ 3 2) := hidI hB6
  clear hA6 hB6 HA HB5
  simp only []
  go_wp2_with fail
  with_reducible refine (all_any w.heap.size d v1 v4 ⟨b2, [], -1, false⟩ w6 HB6.out.D (by show b2.length ≤ _; rw [HL2.out]; omega)).mono ?_
  rintro e w7 ⟨vw, rfl, hS7, hb7⟩
  have hS7 : Strs w7 w6.heap.size vw b2 := hS7
  obtain ⟨A7, c7, rfl, hc7, hC7⟩ := strs_reads hS7
  obtain ⟨K, hK⟩ := EvT.one (jrec_ok (by rw [HL2.out]; omega) (HJ2.out.end_ (by rw [HL2.out]; omega)))
  have hRec := journal_Records.calls K A7 c7 b2 R2 3 w7 hC7 hc7 hK
  have HB7 : Hid (BJ w w7 d j v1 v4 ⟨b2, [], -1, false⟩ 3 2) := hidI (HB6.out.below hb7)
  clear hS7 hb7 hK hC7 hc7 HB6
  simp only []
  go_wp2_with fail
  with_reducible refine hRec.mono ?_
  rintro e w8 ⟨vr, rfl, hS8, hb8⟩
  obtain ⟨A8, c8, hv8, _⟩ := (strs_of_R hS8).slice_
  rw [HR2.out] at hv8
  subst hv8
  have HB8 : Hid (BJ w w8 d j v1 v4 ⟨b2, [], -1, false⟩ 3 2) := hidI (HB7.out.below hb8)
  have hLen := jlen_any j d 3 2 w8 HB8.out.J (by omega)
  have hLeft : Calls Try.prog 48 #[.pointer (some ⟨j, 0, none⟩)] w8 fun e w' => e = .returned (.int .i64 6) ∧ w' = w8.drew := by
    have := jleft_any w.heap.size j d 3 2 v1 v4 ⟨b2, [], -1, false⟩ w8 HB8.out.D HB8.out.J (by show b2.length ≤ _; rw [HL2.out]; omega) (by show _ ≤ b2.length; rw [HL2.out]; omega)
    have e : ((b2.length - 3 : Nat) : Int) = 6 := by rw [HL2.out]; rfl
    have e2 : (((⟨b2, [], -1, false⟩ : DkS).bs.length - 3 : Nat) : Int) = 6 := e
    rw [e2] at this
    exact this
  clear hS8 hb8 hRec HB7
  simp only []
  go_wp2_with fail
  with_reducible refine hLen.mono ?_
  rintro e w9 ⟨rfl, hw9⟩
  subst hw9
  simp only []
  go_wp2_with fail
  with_reducible refine hLeft.mono ?_
  rintro e w10 ⟨rfl, hw10⟩
  have hfin : Hid (Below w.heap.size w w10) := hidI (by rw [hw10]; exact HB8.out.bel.drew)
  clear hw10
  simp only []
  go_wp2_with fail
  go_ret
  exact ⟨rfl, hfin.out⟩
end Go.Proofs.Ytckfkbmefdmedaa
namespace Go.Proofs.Ytckfkbmefdmedaa
open Go.RowKit Go.Proofs.Kq Go.Proofs.Ytckfkbmefdmedaa.Q
open Go.Proofs.YtckfkbmefdmedaaW.PrintWords (pw_cell_below Kd Kd.C Kd.C_below Kd.R Kd.own_of_R rdOf)
open Go.Proofs.YtckfkbmefdmedaaW.PrintLast
set_option linter.unusedVariables false
set_option linter.unusedSimpArgs false
def accW : Int → List ByteArray → Int
  | x, [] => x
  | x, s :: l => accW (wrap64 (x + wrap64 (1 + (s.size : Int)))) l
theorem accW_plain : ∀ (l : List ByteArray) (x : Int), 0 ≤ x → x + l.length * 140737488355329 ≤ 9000000000000000000 → (∀ s ∈ l, s.size ≤ 140737488351232) → ∀ z, accW x l ≤ z → x ≤ z ∧ ∀ s ∈ l, (s.size : Int) ≤ z
  | [], x, h0, hx, hs, z, hz => ⟨hz, fun s h => by simp at h⟩
  | s :: l, x, h0, hx, hs, z, hz => by
    have h1 := hs s (by simp)
    rw [List.length_cons] at hx
    have e : wrap64 (x + wrap64 (1 + (s.size : Int))) = x + (1 + (s.size : Int)) := by
      have e1 : wrap64 (1 + (s.size : Int)) = 1 + (s.size : Int) := by unfold wrap64; omega
      rw [e1]; unfold wrap64; omega
    have hz' : accW (x + (1 + (s.size : Int))) l ≤ z := by rw [← e]; exact hz
    obtain ⟨h2, h3⟩ := accW_plain l (x + (1 + (s.size : Int))) (by omega) (by omega) (fun y hy => hs y (by simp [hy])) z hz'
    refine ⟨by omega, fun y hy => ?_⟩
    rcases List.mem_cons.1 hy with rfl | hy
    · omega
    · exact h3 y hy
theorem small42_loop (l : List ByteArray) (hl : l.length ≤ 9000000000000) : ∀ (r i : Nat) (x : Int), i + r = l.length → EvT (fun k => souklaw06_small.l0 k l x l (l.length : Int) (i : Int)) (decide (accW x (l.drop i) ≤ 4000) && decide ((l.length : Int) ≤ 30))
  | 0, i, x, hi => by
    refine EvT.done (fun k => ?_)
    rw [souklaw06_small.l0, if_neg (by omega), List.drop_eq_nil_of_le (by omega)]
    show _ = some (decide (x ≤ 4000) && _)
    by_cases h : x ≤ 4000
    · rw [if_pos h, decide_eq_true h, Bool.true_and]
    · rw [if_neg h, decide_eq_false h, Bool.false_and]
  | r + 1, i, x, hi => by
    have hlt : i < l.length := by omega
    have hb := small42_loop l hl r (i + 1) (wrap64 (x + wrap64 (1 + ((rdOf ByteArray.empty l (i : Int)).size : Int)))) (by omega)
    have e : wrap64 ((i : Int) + 1) = ((i + 1 : Nat) : Int) := by unfold wrap64; omega
    have hr : rdOf ByteArray.empty l (i : Int) = l[i] := by simp [rdOf, hlt]
    have ed : accW x (l.drop i) = accW (wrap64 (x + wrap64 (1 + ((rdOf ByteArray.empty l (i : Int)).size : Int)))) (l.drop (i + 1)) := by
      rw [List.drop_eq_getElem_cons hlt, hr]; rfl
    rw [ed]
    refine EvT.step (fun k => ?_) hb
    rw [souklaw06_small.l0, if_pos (by omega), if_pos (by omega), if_pos (by omega), e]
theorem small42_ok (l : List ByteArray) (hl : l.length ≤ 9000000000000) (hs : ∀ s ∈ l, s.size ≤ 140737488351232) : ∃ b K, souklaw06_small.f K l = some b ∧ (b = true → l.length ≤ 30 ∧ ∀ s ∈ l, s.size ≤ 4000) := by
  obtain ⟨K, hK⟩ := EvT.one (small42_loop l hl l.length 0 0 (by omega))
  refine ⟨_, K, hK, fun hb => ?_⟩
  simp only [Bool.and_eq_true, decide_eq_true_eq, List.drop_zero] at hb
  have h30 : l.length ≤ 30 := by omega
  obtain ⟨_, h2⟩ := accW_plain l 0 (by omega) (by omega) hs 4000 hb.1
  exact ⟨h30, fun s h => by have := h2 s h; omega⟩
def Tru8 (w : World) (e : Ending) (w' : World) : Prop := e = .returned (.bool true) ∧ Below w.heap.size w w'
theorem C_strs8 {w : World} {A : Option Addr} {xs : List ByteArray} (h : Kd.C Kd.string w A xs.length xs) (hn : 0 < xs.length) :
    ∃ b off, A = some ⟨b, off, none⟩ ∧ ∀ (i : Nat) (hi : i < xs.length), w.cell? ⟨b, off + i, none⟩ = some (.string xs[i]) := by
  obtain ⟨ad, rfl, hc⟩ := (Go.Proofs.YtckfkbmefdmedaaW.PrintWords.Kd.reads_of_C (d := ByteArray.empty) h).2.2 hn
  have hsp : ad.spot = none := by
    have h1 := Rk.spot_none (hc 0 hn)
    simpa [Addr.add] using h1
  refine ⟨ad.block, ad.off, by rw [← Kp.addr_eta hsp], fun i hi => ?_⟩
  have := hc i hi
  rw [Kp.addr_eta hsp, Kp.add_plain', List.getD_eq_getElem?_getD, List.getElem?_eq_getElem hi] at this
  simpa using this
structure B2 (w wr : World) (d j : Nat) (v1 v2 : Value) (g k : Nat) (ua ub vr : Value) (s : DkS) (a : Nat) (R : List ByteArray) : Prop where
  P : BJ w wr d j v1 v2 s a R.length
  Q : BR w wr g k ua ub vr s a R
  apart : ∀ q, PS d j v1 v2 q → ¬ QS g k ua ub vr q
section
variable {w wr w' : World} {d j : Nat} {v1 v2 : Value} {g k : Nat} {ua ub vr : Value} {s s3 : DkS} {a a3 : Nat} {R R3 : List ByteArray}
theorem BJ.drew {at_ cnt : Nat} (h : BJ w wr d j v1 v2 s at_ cnt) : BJ w wr.drew d j v1 v2 s at_ cnt := h.below (Below.refl _ _).drew
theorem B2.below (h : B2 w wr d j v1 v2 g k ua ub vr s a R) (hb : Below wr.heap.size wr w') : B2 w w' d j v1 v2 g k ua ub vr s a R := ⟨h.P.below hb, h.Q.below hb, h.apart⟩
theorem B2.drew (h : B2 w wr d j v1 v2 g k ua ub vr s a R) : B2 w wr.drew d j v1 v2 g k ua ub vr s a R := h.below (Below.refl _ _).drew
end
end Go.Proofs.Ytckfkbmefdmedaa
namespace Go.Proofs.Ytckfkbmefdmedaa
open Go.RowKit Go.Proofs.Kq Go.Proofs.Ytckfkbmefdmedaa.Q
open Go.Proofs.YtckfkbmefdmedaaW.PrintWords (pw_cell_below Kd Kd.C Kd.C_below Kd.R Kd.own_of_R rdOf)
open Go.Proofs.YtckfkbmefdmedaaW.PrintLast
set_option linter.unusedVariables false
set_option linter.unusedSimpArgs false
def pad64 (x : ByteArray) : ByteArray := (x ++ e64).extract 0 64
theorem pad64_size (x : ByteArray) : (pad64 x).size = 64 := by
  unfold pad64; rw [ByteArray.size_extract, ByteArray.size_append, e64_size]; omega
theorem wsL_snoc : ∀ (l : List ByteArray) (a : Nat) (x : ByteArray), wsL a (l ++ [x]) = wsL a l ++ [⟨((a + l.length : Nat) : Int), x⟩]
  | [], a, x => rfl
  | y :: l, a, x => by
    simp only [List.cons_append, wsL, wsL_snoc l (a + 1) x, List.length_cons]
    rw [show a + 1 + l.length = a + (l.length + 1) by omega]
theorem Strs.keepF {S : Nat → Prop} {w w1 : World} {b : Nat} {v : Value} {xs : List ByteArray} (h : Strs w b v xs) (hf : Fr S w w1) (hS : ∀ q, S q → q < b) : Strs w1 b v xs :=
  h.fr hf (fun q hq hn => by have h1 := h.ge hq; have h2 := hS q hn; omega)
theorem BJ.openF {w w1 w2 : World} {d : Nat} {v1 v2 : Value} {s0 : DkS} {R : List ByteArray} {a : Nat} {e : Ending} {s : DkS} (hb : Below w.heap.size w w1) (hd : w.heap.size ≤ d) (hD : DT w1 w.heap.size d v1 v2 s0) (hO : OpP w.heap.size d v1 v2 R a (0, s) w1 e w2) :
    ∃ v2' j vr, e = .returned (.tuple #[.pointer (some ⟨j, 0, none⟩), vr, .int .i64 0]) ∧ BJ w w2 d j v1 v2' s a R.length ∧ Strs w2 w1.heap.size vr R ∧ (∀ q, vr.ownBlock = some q → ¬ PS d j v1 v2' q) ∧ Fr (DS d v1 v2) w1 w2 ∧ ∀ q, PS d j v1 v2' q → DS d v1 v2 q ∨ w1.heap.size ≤ q := by
  obtain ⟨v2', pj, vr, rfl, hD2, hF, hP, hj⟩ := hO
  obtain ⟨j, rfl, hj1, hj2, hj3, hj4⟩ := hj rfl
  refine ⟨v2', j, vr, rfl, ⟨hD2, hj2, hb.trans (Fr.toB hF (fun q hq => DS_ge hD hd hq) hb.size), hd, Nat.le_trans hb.size hj1⟩, hj3, fun q hq hn => ?_, hF, fun q hq => ?_⟩
  · rcases hn with hn | rfl
    · exact hj4 q hq hn
    · exact hj3.ne hj2 (by decide) hq
  · rcases hq with hq | rfl
    · exact hP q hq
    · exact .inr hj1
theorem jn_goodF {bs : List ByteArray} (h : All64 bs) (f : Int) (hf : -9223372036854775808 ≤ f ∧ f ≤ 9223372036854775807) : Good bs.length 0 ⟨bs, [], f, false⟩ :=
  ⟨rfl, h, fun p hp => by simp at hp, fun p hp => by simp at hp, Nat.le_refl _, hf⟩
theorem fz8 : (-9223372036854775808 : Int) ≤ -1 ∧ (-1 : Int) ≤ 9223372036854775807 := by decide
theorem wsL_in : ∀ (l : List ByteArray) (a : Nat), inB (a + l.length) (wsL a l)
  | [], a, p, hp => by simp [wsL] at hp
  | x :: l, a, p, hp => by
    simp only [wsL, List.mem_cons] at hp
    rcases hp with rfl | hp
    · constructor
      · show (0 : Int) ≤ (a : Int); omega
      · show (a : Int) < ((a + (x :: l).length : Nat) : Int); simp; omega
    · have := wsL_in l (a + 1) p hp
      rw [List.length_cons, show a + (l.length + 1) = a + 1 + l.length by omega]; exact this
set_option maxHeartbeats 16000000 in
set_option maxRecDepth 100000 in
theorem jopens_any (A : Option Addr) (c0 : Nat) (l : List ByteArray) (w : World) (hC : Kd.C Kd.string w A l.length l) (hc : l.length ≤ c0) (hl : l.length ≤ 8796093022004) (hsz : ∀ s ∈ l, s.size ≤ 140737488351232) :
    Calls Try.prog 9 #[.slice A l.length c0] w (Tru8 w) := by
  have HC := hidI hC
  obtain ⟨b0, K, hK, hsm⟩ := small42_ok l (by omega) hsz
  have HSM : Hid (∀ w1, Below w.heap.size w w1 → Calls Try.prog 42 #[.slice A l.length c0] w1 fun e w' => e = .returned (.bool b0) ∧ Below w1.heap.size w1 w') := hidI (fun w1 hb => (souklaw06_small.calls K A c0 l b0 w1 (Kd.C_below HC.out hb) hc hK).mono (fun e w' h => ⟨h.1, by obtain ⟨m, rfl⟩ := h.2; exact below_drewN (Below.refl _ _) m⟩))
  clear hC hc hK hsz
  cases b0
  · clear hsm
    go_enter Try.func9, Try.ntmps9
    go_wp2_with fail
    with_reducible refine (lives06_any w).mono ?_
    rintro e w1 ⟨rfl, hb1⟩
    have HB1 := hidI hb1
    clear hb1
    simp only []
    go_wp2_with fail
    with_reducible refine (HSM.out _ HB1.out).mono ?_
    rintro e w2 ⟨rfl, hb2⟩
    have HB2 := hidI (below_step HB1.out hb2)
    clear hb2
    simp only []
    go_wp2_with fail
    with_reducible refine (lives06_any w2).mono ?_
    rintro e w3 ⟨rfl, hb3⟩
    have hfin : Hid (Tru8 w (.returned (.bool true)) w3) := hidI ⟨rfl, below_step HB2.out hb3⟩
    clear hb3
    simp only []
    go_wp2_with fail
    go_ret
    exact hfin.out
  · obtain ⟨hl30, hs4⟩ := hsm rfl
    have HSZ := hidI hs4
    clear hsm hs4
    go_enter Try.func9, Try.ntmps9
    go_wp2_with fail
    with_reducible refine (lives06_any w).mono ?_
    rintro e w1 ⟨rfl, hb1⟩
    have HB1 := hidI hb1
    clear hb1
    simp only []
    go_wp2_with fail
    with_reducible refine (HSM.out _ HB1.out).mono ?_
    rintro e w2 ⟨rfl, hb2⟩
    have HB2 := hidI (below_step HB1.out hb2)
    clear hb2
    simp only []
    go_wp2_with fail
    have hN : Calls Try.prog 23 #[.int .i64 l.length] w2 (NwP l.length w2) := new_any l.length w2 (by omega)
    with_reducible refine hN.mono ?_
    rintro e w3 ⟨d, v1, rfl, hD3, hd, hb3⟩
    have HD3 := hidI hD3
    have HB3 := hidI hb3
    clear hN hD3 hb3
    simp only []
    go_wp2_with fail
    have hN : Calls Try.prog 36 #[.int .i64 l.length] w3 (RNw l.length w3) := rnew_any l.length w3 (by omega)
    with_reducible refine hN.mono ?_
    rintro e w4 ⟨ua, rfl, hE4, hb4⟩
    have HJ4 := hidI (AJ.start HB2.out HD3.out hd HB3.out hE4 (Nat.le_refl _) hb4)
    clear hN hE4 hb4 HD3 HB3 HB2 HB1 hd
    obtain ⟨g, hg⟩ : ∃ g, g = w3.heap.size := ⟨_, rfl⟩
    rw [← hg] at HJ4
    rw [← hg]
    clear hg
    obtain ⟨bs0, hbs0⟩ : ∃ bs0, bs0 = List.replicate l.length e64 := ⟨_, rfl⟩
    have HA0 : Hid (All64 bs0) := hidI (by rw [hbs0]; exact all64_new l.length)
    have HL0 : Hid (bs0.length = l.length) := hidI (by rw [hbs0]; simp)
    rw [← hbs0] at HJ4
    clear hbs0
    obtain ⟨ys, hys⟩ : ∃ ys, ys = l.map pad64 := ⟨_, rfl⟩
    have HYS := hidI hys
    have HYL : Hid (ys.length = l.length) := hidI (by rw [hys]; simp)
    have HY64 : Hid (All64 ys) := hidI (by rw [hys]; intro b hb; obtain ⟨x, _, rfl⟩ := List.mem_map.1 hb; exact pad64_size x)
    clear hys
    simp only []
    go_wp2_with fail
    go_loopw [35] (fun i wr => ∃ i0 : Nat, i0 ≤ l.length ∧ i = .int .i64 i0 ∧ ∃ (v2 ub : Value), Hid (AJ w wr d g v1 v2 ua ub ⟨bs0, wsL 0 (ys.take i0), -1, false⟩ ⟨bs0, wsL 0 (ys.take i0), -1, false⟩)) (fun i _ => l.length - (intOf i).toNat)
    case atStart => exact ⟨0, Nat.zero_le _, rfl, _, _, HJ4⟩
    case round =>
      obtain ⟨i0, hi0, rfl, v2, ub, HI⟩ := hrel
      clear HJ4
      by_cases hlt : i0 < l.length
      · as_aux_lemma =>
          have hlt' : decide ((i0 : Int) < (l.length : Int)) = true := decide_eq_true (by omega)
          obtain ⟨bq, off, rfl, hcx⟩ := C_strs8 HC.out (by omega)
          have q := pw_cell_below HI.out.bel (hcx i0 hlt)
          have hxs := HSZ.out l[i0] (List.getElem_mem hlt)
          obtain ⟨x, hx⟩ : ∃ x, x = l[i0] := ⟨_, rfl⟩
          have HYX : Hid (ys.take (i0 + 1) = ys.take i0 ++ [pad64 x]) := hidI (by
            rw [List.take_succ_eq_append_getElem (by rw [HYL.out]; exact hlt)]
            congr 2
            have e : ys[i0]'(by rw [HYL.out]; exact hlt) = (l.map pad64)[i0]'(by simpa using hlt) := by first | (congr 1; done) | (congr 1; exact HYS.out)
            rw [e, List.getElem_map, hx])
          rw [← hx] at q hxs
          clear hx hcx
          have HW : Hid (wsL 0 (ys.take (i0 + 1)) = wsL 0 (ys.take i0) ++ [(⟨(i0 : Int), pad64 x⟩ : Wr)]) := hidI (by
            rw [HYX.out, wsL_snoc, List.length_take, HYL.out, Nat.min_eq_left (by omega), Nat.zero_add])
          have HWL : Hid ((wsL 0 (ys.take i0)).length ≤ 30) := hidI (by rw [wsL_len, List.length_take]; omega)
          have hcat : ¬ (9223372036854775807 < x.size + 64) := by omega
          have he64 : e64.size = 64 := e64_size
          have HE64 := hidI he64
          have hle1 : 64 ≤ x.size + 64 := by omega
          have hle2 : (64 : Int) ≤ (x.size : Int) + 64 := by omega
          clear he64
          go_wp2_with fail
          with_reducible refine (strings_Repeat.calls ⟨#[0]⟩ 64 e64 _ rep_e64).mono ?_
          rintro e w5 ⟨rfl, hb5⟩
          have HJ5 := hidI (HI.out.below hb5)
          obtain ⟨z, hz⟩ : ∃ z : ByteArray, z = x ++ e64 := ⟨_, rfl⟩
          have hzs : z.size = x.size + 64 := by rw [hz, ByteArray.size_append, HE64.out]
          have hcat2 : ¬ (9223372036854775807 < x.size + e64.size) := by rw [HE64.out]; omega
          have HZ : Hid (z.extract 0 64 = pad64 x) := hidI (by rw [hz]; rfl)
          have hz64 : 64 ≤ z.size := by omega
          have hz64' : (64 : Int) ≤ (z.size : Int) := by omega
          have hxz : x ++ e64 = z := hz.symm
          clear hb5 hz hzs
          simp only []
          go_wp2_with fail
          have hW1 := write_any w.heap.size d v1 v2 ⟨bs0, wsL 0 (ys.take i0), -1, false⟩ (i0 : Int) (pad64 x) w5 HJ5.out.D HJ5.out.bel.size fz8 (Nat.le_trans HWL.out (by omega))
          rw [wrS_ok _ _ _ _ _ (by rw [HL0.out]; exact hlt) (pad64_size x), ← HZ.out] at hW1
          with_reducible refine hW1.mono ?_
          intro e w6 hM
          obtain ⟨rfl, v3, hJ6, _⟩ := HJ5.out.mu hM
          have HJ6 : Hid (AJ w w6 d g v1 v3 ua ub ⟨bs0, wsL 0 (ys.take (i0 + 1)), -1, false⟩ ⟨bs0, wsL 0 (ys.take i0), -1, false⟩) := hidI (by rw [HW.out, ← HZ.out]; exact hJ6)
          have hW2 := rwrite_any w.heap.size g ua ub ⟨bs0, wsL 0 (ys.take i0), -1, false⟩ (i0 : Int) (pad64 x) w6 HJ6.out.E HJ6.out.bel.size fz8 (Nat.le_trans HWL.out (by omega))
          rw [wrS_ok _ _ _ _ _ (by rw [HL0.out]; exact hlt) (pad64_size x), ← HZ.out] at hW2
          clear hM hJ6 hW1
          simp only []
          go_wp2_with fail
          with_reducible refine hW2.mono ?_
          intro e w7 hM
          obtain ⟨rfl, uc, hJ7, _⟩ := HJ6.out.ru hM
          have HJ7 : Hid (AJ w w7 d g v1 v3 ua uc ⟨bs0, wsL 0 (ys.take (i0 + 1)), -1, false⟩ ⟨bs0, wsL 0 (ys.take (i0 + 1)), -1, false⟩) := hidI (by have := hJ7; rw [HZ.out] at this; rw [HW.out]; rw [HW.out] at this; exact this)
          clear hM hJ7 hW2 hxz
          simp only []
          go_wp2_with fail
          go_roundw
          · exact ⟨i0 + 1, by omega, by simp, v3, uc, HJ7⟩
          · simp [intOf]; omega
      · have hlt' : decide ((i0 : Int) < (l.length : Int)) = false := decide_eq_false (by omega)
        obtain rfl : i0 = l.length := by omega
        have HI2 : Hid (AJ w wr d g v1 v2 ua ub ⟨bs0, wsL 0 ys, -1, false⟩ ⟨bs0, wsL 0 ys, -1, false⟩) := hidI (by have := HI.out; rwa [List.take_of_length_le (by rw [HYL.out]; omega)] at this)
        have HSY : Hid (syS ⟨bs0, wsL 0 ys, -1, false⟩ = (0, ⟨ys, [], -1, false⟩)) := hidI (by
          rw [syS_ok _ _ _ (by omega), setAll_wsL _ _ _ (by rw [HL0.out, HYL.out]; omega), List.take_zero, List.drop_eq_nil_of_le (by rw [HL0.out, HYL.out]; omega)]; simp)
        have HIN : Hid (inB bs0.length (wsL 0 ys)) := hidI (by rw [HL0.out, ← HYL.out]; have := wsL_in ys 0; rwa [Nat.zero_add] at this)
        have hS1 := sync_any w.heap.size d v1 v2 ⟨bs0, wsL 0 ys, -1, false⟩ wr HI2.out.D fz8 (by show (wsL 0 ys).length ≤ _; rw [wsL_len, HYL.out]; omega) HIN.out
        rw [HSY.out] at hS1
        clear HI
        go_wp2_with fail
        with_reducible refine hS1.mono ?_
        intro e wb hM
        obtain ⟨rfl, v3, hJb, _⟩ := HI2.out.mu hM
        have HJb := hidI hJb
        have hS2 := rsync_any w.heap.size g ua ub ⟨bs0, wsL 0 ys, -1, false⟩ wb HJb.out.E fz8 (by show (wsL 0 ys).length ≤ _; rw [wsL_len, HYL.out]; omega) HIN.out
        rw [HSY.out] at hS2
        clear hM hJb hS1
        simp only []
        go_wp2_with fail
        with_reducible refine hS2.mono ?_
        intro e ws hM
        obtain ⟨rfl, uc, hJs, _⟩ := HJb.out.ru hM
        have HJs : Hid (AJ w ws d g v1 v3 ua uc ⟨ys, [], -1, false⟩ ⟨ys, [], -1, false⟩) := hidI hJs
        clear hM hJs hS2 HJb HI2 HSY HIN
        have HBY : Hid (ys.length ≤ 1000000) := hidI (by rw [HYL.out]; omega)
        simp only []
        go_wp2_with fail
        with_reducible refine (all_any w.heap.size d v1 v3 ⟨ys, [], -1, false⟩ ws HJs.out.D HBY.out).mono ?_
        rintro e wp ⟨vw, rfl, hSp, hbp⟩
        have hSp : Strs wp ws.heap.size vw ys := hSp
        obtain ⟨R, a, hRE⟩ := recs_ex ys ys.length 0 0 (by omega) (Nat.zero_le _)
        have hral := hRE.1.le (Nat.zero_le _)
        have HRE := hidI hRE
        obtain ⟨Ap, cp, rfl, hcp, hCp⟩ := strs_reads hSp
        obtain ⟨Kp, hKp⟩ := EvT.one (jrec_ok HBY.out HRE.out)
        have hRec := journal_Records.calls Kp Ap cp ys R (a : Int) wp hCp hcp hKp
        have HBp := hidI hbp
        have hra : R.length ≤ a ∧ a ≤ l.length := by rw [HYL.out] at hral; omega
        clear hSp hbp hKp hCp hcp hRE hral
        simp only []
        go_wp2_with fail
        with_reducible refine hRec.mono ?_
        rintro e wx ⟨vx, rfl, hSx, hbx⟩
        have HX : Hid (Strs wx wp.heap.size vx R) := hidI (strs_of_R hSx)
        have HBx : Hid (Below ws.heap.size ws wx) := hidI (below_step HBp.out hbx)
        have hsx : ws.heap.size ≤ wp.heap.size := HBp.out.size
        have hmc : wx.cell? ⟨g, 0, none⟩ = some ua := pw_cell_below HBx.out (HJs.out.E.blk.c 0)
        obtain ⟨Ay, cy, hua, hcy, hCy⟩ := strs_reads (HJs.out.E.own.below HBx.out)
        obtain ⟨Ky, hKy⟩ := EvT.one (rrec_ok HBY.out HRE.out)
        have hRec2 := soukref05_Records.calls Ky Ay cy ys R (a : Int) wx hCy hcy hKy
        have hua' : ua = .slice Ay ys.length cy := hua
        rw [← hua'] at hRec2
        have HRec2 := hidI hRec2
        clear hSx hbx hRec hRec2 hKy hCy hcy hua hua' HBp
        simp only []
        go_wp2_with fail
        with_reducible refine HRec2.out.mono ?_
        rintro e wy ⟨vy, rfl, hSy, hby⟩
        have HY : Hid (Strs wy wx.heap.size vy R) := hidI (strs_of_R hSy)
        have HBy : Hid (Below ws.heap.size ws wy) := hidI (below_step HBx.out hby)
        have HXy : Hid (Strs wy wp.heap.size vx R) := hidI (HX.out.below hby)
        have HJy : Hid (AJ w wy d g v1 v3 ua uc ⟨ys, [], -1, false⟩ ⟨ys, [], -1, false⟩) := hidI (HJs.out.below HBy.out)
        have hsy : ws.heap.size ≤ wx.heap.size := HBx.out.size
        have HDl : Hid (∀ q, DS d v1 v3 q → q < ws.heap.size) := hidI (fun q hq => DS_lt HJs.out.D hq)
        have HEl : Hid (∀ q, ES g ua uc q → q < ws.heap.size) := hidI (fun q hq => ES_lt HJs.out.E hq)
        have hsyy : ws.heap.size ≤ wy.heap.size := HBy.out.size
        obtain ⟨bs2, hbs2⟩ : ∃ bs2, bs2 = ys.take a ++ List.replicate (ys.length - a) e64 := ⟨_, rfl⟩
        have HEr : Hid (erL ⟨ys, [], -1, false⟩ a false (ys.drop a) = (0, ⟨bs2, [], -1, false⟩)) := hidI (by rw [hbs2]; exact erL_new (-1) (by omega) ys a (by rw [HYL.out]; omega))
        have HJn : Hid (Jn bs2 R a) := hidI (by rw [hbs2]; exact jn_cut HRE.out.1 (by rw [HYL.out]; omega))
        have HL2 : Hid (bs2.length = l.length) := hidI (by rw [hbs2, List.length_append, List.length_take, List.length_replicate, HYL.out]; omega)
        have H642 : Hid (All64 bs2) := hidI (by
          have := (erL_good (ys.drop a) 0 ⟨ys, [], -1, false⟩ a false (jn_good HY64.out)).b64
          rw [HEr.out] at this; exact this)
        have HO : Hid (Calls Try.prog 43 #[.pointer (some ⟨d, 0, none⟩)] wy (OpP w.heap.size d v1 v3 R a (0, ⟨bs2, [], -1, false⟩) wy)) := hidI (by
          have := open_any w.heap.size d v1 v3 ys R (-1) a 0 wy HJy.out.D (jn_good HY64.out) HJy.out.bel.size (by rw [HYL.out]; omega) (by omega) HRE.out
          rw [HEr.out] at this
          exact this)
        clear hSy hby HX hbs2 HBx HJs HRec2 hmc
        simp only []
        go_wp2_with fail
        with_reducible refine HO.out.mono ?_
        intro e w4 hO4
        obtain ⟨v4, j, vr4, rfl, hB4, hS4, hN4, hF4, hP4⟩ := BJ.openF HJy.out.bel HJy.out.hd HJy.out.D hO4
        have HB4 := hidI hB4
        have HS4 := hidI hS4
        have HN4 := hidI hN4
        have HE4 : Hid (ET w4 w.heap.size g ua uc ⟨ys, [], -1, false⟩) := hidI (HJy.out.E.fr hF4 (fun q hq hn => HJy.out.apart q hn hq))
        have HX4 : Hid (Strs w4 wp.heap.size vx R) := hidI (HXy.out.keepF hF4 (fun q hq => Nat.lt_of_lt_of_le (HDl.out q hq) hsx))
        have HY4 : Hid (Strs w4 wx.heap.size vy R) := hidI (HY.out.keepF hF4 (fun q hq => Nat.lt_of_lt_of_le (HDl.out q hq) hsy))
        have HP4 : Hid (∀ q, PS d j v1 v4 q → ¬ ES g ua uc q) := hidI (fun q hq hn => by
          rcases hP4 q hq with h1 | h1
          · exact HJy.out.apart q h1 hn
          · have := HEl.out q hn; omega)
        have hge4 : w.heap.size ≤ g := HJy.out.hg
        have hRo := ropen_any w.heap.size g ua uc ys R (-1) a 0 w4 HE4.out (jn_good HY64.out) HB4.out.bel.size (by rw [HYL.out]; omega) (by omega) HRE.out
        rw [HEr.out] at hRo
        clear hO4 hB4 hS4 hN4 hF4 hP4 HO HXy HY HJy
        simp only []
        go_wp2_with fail
        with_reducible refine hRo.mono ?_
        intro e w5 hO5
        obtain ⟨ud, k, vr, rfl, hR5, hF5, hP5⟩ := BR.open_ HB4.out.bel hge4 HE4.out hO5
        have HB5 : Hid (BJ w w5 d j v1 v4 ⟨bs2, [], -1, false⟩ a R.length) := hidI (HB4.out.fr hF5 (fun q hq hn => HP4.out q hq hn) (fun q hq => ES_ge HE4.out hge4 hq))
        have HT : Hid (Strs w5 wp.heap.size vx R ∧ Strs w5 wx.heap.size vy R ∧ Strs w5 wy.heap.size vr4 R ∧ BR w w5 g k ua ud vr ⟨bs2, [], -1, false⟩ a R) := hidI
          ⟨HX4.out.keepF hF5 (fun q hq => Nat.lt_of_lt_of_le (HEl.out q hq) hsx), HY4.out.keepF hF5 (fun q hq => Nat.lt_of_lt_of_le (HEl.out q hq) hsy), HS4.out.keepF hF5 (fun q hq => Nat.lt_of_lt_of_le (HEl.out q hq) hsyy), hR5⟩
        have s1 : w5.cell? ⟨k, 1, none⟩ = some vr := Blk.c HT.out.2.2.2.K 1
        have s0 : w5.cell? ⟨g, 0, none⟩ = some ua := HT.out.2.2.2.E.blk.c 0
        have HRL : Hid (R.length ≤ 1000000) := hidI (by omega)
        have HBL : Hid (bs2.length ≤ 1000000) := hidI (by rw [HL2.out]; omega)
        have ha1 : ((a : Int) != (a : Int)) = false := by simp
        clear hO5 hR5 hF5 hP5 hRo HX4 HY4 HS4 HB4 HE4 HP4 HDl HEl
        simp only []
        go_wp2_with fail
        refine start_ (n := 36) (S := fun w' => w'.cell? ⟨k, 1, none⟩ = some vr ∧ w'.cell? ⟨g, 0, none⟩ = some ua) (ds := []) #[false, false, false, false, false, false, false, false, false, false, false, false, false, false, false, false, false, false, false, false, false, false, false, false, false, false, false, false, false, false, false, false, false, false, false, false] (by kernel_rfl) rfl rfl ⟨s1, s0⟩ (fun hHeld => ?_)
        refine pure_ (i := 0) (N := some 83) (v := ?_) (a' := ?_) #[true, false, false, false, false, false, false, false, false, false, false, false, false, false, false, false, false, false, false, false, false, false, false, false, false, false, false, false, false, false, false, false, false, false, false, false] rfl rfl (by kernel_rfl) (fun _ _ _ h => h) (Or.inl ⟨by rfl, ?_⟩) ?_ ?_
        rotate_left
        · intro w'
          go_simp
          with_reducible rfl
        rotate_left
        · simp only [Act.put, List.setIfInBounds_toArray, List.set_cons_zero, List.set_cons_succ, i64_w, i32_w]
          rfl
        refine pure_ (i := 1) (N := some 84) (v := ?_) (a' := ?_) #[true, true, false, false, false, false, false, false, false, false, false, false, false, false, false, false, false, false, false, false, false, false, false, false, false, false, false, false, false, false, false, false, false, false, false, false] rfl rfl (by kernel_rfl) (fun _ _ _ h => h) (Or.inl ⟨by rfl, ?_⟩) ?_ ?_
        rotate_left
        · intro w'
          go_simp
          with_reducible rfl
        rotate_left
        · simp only [Act.put, List.setIfInBounds_toArray, List.set_cons_zero, List.set_cons_succ, i64_w, i32_w]
          rfl
        refine pure_ (i := 2) (N := some 85) (v := ?_) (a' := ?_) #[true, true, true, false, false, false, false, false, false, false, false, false, false, false, false, false, false, false, false, false, false, false, false, false, false, false, false, false, false, false, false, false, false, false, false, false] rfl rfl (by kernel_rfl) (fun _ _ _ h => h) (Or.inl ⟨by rfl, ?_⟩) ?_ ?_
        rotate_left
        · intro w'
          go_simp
          with_reducible rfl
        rotate_left
        · simp only [Act.put, List.setIfInBounds_toArray, List.set_cons_zero, List.set_cons_succ, i64_w, i32_w]
          rfl
        refine pure_ (i := 3) (N := some 86) (v := ?_) (a' := ?_) #[true, true, true, true, false, false, false, false, false, false, false, false, false, false, false, false, false, false, false, false, false, false, false, false, false, false, false, false, false, false, false, false, false, false, false, false] rfl rfl (by kernel_rfl) (fun _ _ _ h => h) (Or.inl ⟨by rfl, ?_⟩) ?_ ?_
        rotate_left
        · intro w'
          go_simp
          with_reducible rfl
        rotate_left
        · simp only [Act.put, List.setIfInBounds_toArray, List.set_cons_zero, List.set_cons_succ, i64_w, i32_w]
          rfl
        refine pure_ (i := 4) (N := some 87) (v := ?_) (a' := ?_) #[true, true, true, true, true, false, false, false, false, false, false, false, false, false, false, false, false, false, false, false, false, false, false, false, false, false, false, false, false, false, false, false, false, false, false, false] rfl rfl (by kernel_rfl) (fun _ _ _ h => h) (Or.inl ⟨by rfl, ?_⟩) ?_ ?_
        rotate_left
        · intro w'
          go_simp
          with_reducible rfl
        rotate_left
        · simp only [Act.put, List.setIfInBounds_toArray, List.set_cons_zero, List.set_cons_succ, i64_w, i32_w]
          rfl
        refine pure_ (i := 5) (N := some 88) (v := ?_) (a' := ?_) #[true, true, true, true, true, true, false, false, false, false, false, false, false, false, false, false, false, false, false, false, false, false, false, false, false, false, false, false, false, false, false, false, false, false, false, false] rfl rfl (by kernel_rfl) (fun _ _ _ h => h) (Or.inl ⟨by rfl, ?_⟩) ?_ ?_
        rotate_left
        · intro w'
          go_simp
          with_reducible rfl
        rotate_left
        · simp only [Act.put, List.setIfInBounds_toArray, List.set_cons_zero, List.set_cons_succ, i64_w, i32_w]
          rfl
        refine pure_ (i := 6) (N := some 89) (v := ?_) (a' := ?_) #[true, true, true, true, true, true, true, false, false, false, false, false, false, false, false, false, false, false, false, false, false, false, false, false, false, false, false, false, false, false, false, false, false, false, false, false] rfl rfl (by kernel_rfl) (fun _ _ _ h => h) (Or.inl ⟨by rfl, ?_⟩) ?_ ?_
        rotate_left
        · intro w'
          go_simp
          with_reducible rfl
        rotate_left
        · simp only [Act.put, List.setIfInBounds_toArray, List.set_cons_zero, List.set_cons_succ, i64_w, i32_w]
          rfl
        as_aux_lemma =>
          refine pure_ (i := 7) (N := some 90) (v := ?_) (a' := ?_) #[true, true, true, true, true, true, true, true, false, false, false, false, false, false, false, false, false, false, false, false, false, false, false, false, false, false, false, false, false, false, false, false, false, false, false, false] rfl rfl (by kernel_rfl) (fun _ _ _ h => h) (Or.inl ⟨by rfl, ?_⟩) ?_ ?_
          rotate_left
          · intro w'
            go_simp
            with_reducible rfl
          rotate_left
          · simp only [Act.put, List.setIfInBounds_toArray, List.set_cons_zero, List.set_cons_succ, i64_w, i32_w]
            rfl
          refine pure_ (i := 8) (N := some 91) (v := ?_) (a' := ?_) #[true, true, true, true, true, true, true, true, true, false, false, false, false, false, false, false, false, false, false, false, false, false, false, false, false, false, false, false, false, false, false, false, false, false, false, false] rfl rfl (by kernel_rfl) (fun _ _ _ h => h) (Or.inl ⟨by rfl, ?_⟩) ?_ ?_
          rotate_left
          · intro w'
            go_simp
            with_reducible rfl
          rotate_left
          · simp only [Act.put, List.setIfInBounds_toArray, List.set_cons_zero, List.set_cons_succ, i64_w, i32_w]
            rfl
          refine one_ (i := 9) (N := some 92) #[true, true, true, true, true, true, true, true, true, true, false, false, false, false, false, false, false, false, false, false, false, false, false, false, false, false, false, false, false, false, false, false, false, false, false, false] rfl rfl (by kernel_rfl) (by decide) (fun K hK => ?_)
          refine goes_ Try.func21 (by kernel_rfl) rfl #[vx, vy] (by rfl) rfl rfl (by simp only [List.map_toArray, List.map_cons, List.map_nil]; rfl) ?_
          with_reducible refine (equal_same _ _ vx vy R w5.drew HT.out.1.drew HT.out.2.1.drew HRL.out).mono ?_
          rintro e w6 ⟨rfl, m6, hw6⟩
          have HB6 : Hid (Below w5.heap.size w5 w6) := hidI (by rw [hw6]; exact below_drewN (Below.refl _ _).drew m6)
          have n1 := pw_cell_below HB6.out s1
          have n0 := pw_cell_below HB6.out s0
          clear hw6
          refine ⟨_, rfl, ?_⟩
          refine hK.out _ _ ⟨n1, n0⟩ (fun hHeld => ?_)
          clear hK K
          refine norm_ (a' := ?_) ?_ ?_
          rotate_left
          · show Act.put _ (some 92) _ = _
            simp only [Act.put, List.setIfInBounds_toArray, List.set_cons_zero, List.set_cons_succ, i64_w, i32_w]
            rfl
          refine pure_ (i := 10) (N := some 93) (v := ?_) (a' := ?_) #[true, true, true, true, true, true, true, true, true, true, true, false, false, false, false, false, false, false, false, false, false, false, false, false, false, false, false, false, false, false, false, false, false, false, false, false] rfl rfl (by kernel_rfl) (fun _ _ _ h => h) (Or.inl ⟨by rfl, ?_⟩) ?_ ?_
          rotate_left
          · intro w'
            go_simp
            with_reducible rfl
          rotate_left
          · simp only [Act.put, List.setIfInBounds_toArray, List.set_cons_zero, List.set_cons_succ, i64_w, i32_w]
            rfl
          refine pure_ (i := 11) (N := some 94) (v := ?_) (a' := ?_) #[true, true, true, true, true, true, true, true, true, true, true, true, false, false, false, false, false, false, false, false, false, false, false, false, false, false, false, false, false, false, false, false, false, false, false, false] rfl rfl (by kernel_rfl) (fun _ _ _ h => h) (Or.inl ⟨by rfl, ?_⟩) ?_ ?_
          rotate_left
          · intro w'
            go_simp
            with_reducible rfl
          rotate_left
          · simp only [Act.put, List.setIfInBounds_toArray, List.set_cons_zero, List.set_cons_succ, i64_w, i32_w]
            rfl
          refine pure_ (i := 12) (N := some 95) (v := ?_) (a' := ?_) #[true, true, true, true, true, true, true, true, true, true, true, true, true, false, false, false, false, false, false, false, false, false, false, false, false, false, false, false, false, false, false, false, false, false, false, false] rfl rfl (by kernel_rfl) (fun _ _ _ h => h) (Or.inl ⟨by rfl, ?_⟩) ?_ ?_
          rotate_left
          · intro w'
            go_simp
            with_reducible rfl
          rotate_left
          · simp only [Act.put, List.setIfInBounds_toArray, List.set_cons_zero, List.set_cons_succ, i64_w, i32_w]
            rfl
          refine pure_ (i := 13) (N := some 96) (v := ?_) (a' := ?_) #[true, true, true, true, true, true, true, true, true, true, true, true, true, true, false, false, false, false, false, false, false, false, false, false, false, false, false, false, false, false, false, false, false, false, false, false] rfl rfl (by kernel_rfl) (fun _ _ _ h => h) (Or.inl ⟨by rfl, ?_⟩) ?_ ?_
          rotate_left
          · intro w'
            go_simp
            with_reducible rfl
          rotate_left
          · simp only [Act.put, List.setIfInBounds_toArray, List.set_cons_zero, List.set_cons_succ, i64_w, i32_w]
            rfl
          refine pure_ (i := 14) (N := some 97) (v := ?_) (a' := ?_) #[true, true, true, true, true, true, true, true, true, true, true, true, true, true, true, false, false, false, false, false, false, false, false, false, false, false, false, false, false, false, false, false, false, false, false, false] rfl rfl (by kernel_rfl) (fun _ _ _ h => h) (Or.inl ⟨by rfl, ?_⟩) ?_ ?_
          rotate_left
          · intro w'
            go_simp
            with_reducible rfl
          rotate_left
          · simp only [Act.put, List.setIfInBounds_toArray, List.set_cons_zero, List.set_cons_succ, i64_w, i32_w]
            rfl
          refine pure_ (i := 15) (N := some 98) (v := ?_) (a' := ?_) #[true, true, true, true, true, true, true, true, true, true, true, true, true, true, true, true, false, false, false, false, false, false, false, false, false, false, false, false, false, false, false, false, false, false, false, false] rfl rfl (by kernel_rfl) (fun _ _ _ h => h) (Or.inl ⟨by rfl, ?_⟩) ?_ ?_
          rotate_left
          · intro w'
            go_simp
            with_reducible rfl
          rotate_left
          · simp only [Act.put, List.setIfInBounds_toArray, List.set_cons_zero, List.set_cons_succ, i64_w, i32_w]
            rfl
          refine pure_ (i := 16) (N := some 99) (v := ?_) (a' := ?_) #[true, true, true, true, true, true, true, true, true, true, true, true, true, true, true, true, true, false, false, false, false, false, false, false, false, false, false, false, false, false, false, false, false, false, false, false] rfl rfl (by kernel_rfl) (fun _ _ _ h => h) (Or.inl ⟨by rfl, ?_⟩) ?_ ?_
          rotate_left
          · intro w'
            go_simp
            with_reducible rfl
          rotate_left
          · simp only [Act.put, List.setIfInBounds_toArray, List.set_cons_zero, List.set_cons_succ, i64_w, i32_w]
            rfl
          refine pure_ (i := 17) (N := some 100) (v := ?_) (a' := ?_) #[true, true, true, true, true, true, true, true, true, true, true, true, true, true, true, true, true, true, false, false, false, false, false, false, false, false, false, false, false, false, false, false, false, false, false, false] rfl rfl (by kernel_rfl) (fun _ _ _ h => h) (Or.inl ⟨by rfl, ?_⟩) ?_ ?_
          rotate_left
          · intro w'
            go_simp
            with_reducible rfl
          rotate_left
          · simp only [Act.put, List.setIfInBounds_toArray, List.set_cons_zero, List.set_cons_succ, i64_w, i32_w]
            rfl
          as_aux_lemma =>
            refine pure_ (i := 18) (N := some 101) (v := ?_) (a' := ?_) #[true, true, true, true, true, true, true, true, true, true, true, true, true, true, true, true, true, true, true, false, false, false, false, false, false, false, false, false, false, false, false, false, false, false, false, false] rfl rfl (by kernel_rfl) (fun _ _ _ h => h) (Or.inl ⟨by rfl, ?_⟩) ?_ ?_
            rotate_left
            · intro w'
              go_simp
              with_reducible rfl
            rotate_left
            · simp only [Act.put, List.setIfInBounds_toArray, List.set_cons_zero, List.set_cons_succ, i64_w, i32_w]
              rfl
            refine pure_ (i := 19) (N := some 102) (v := ?_) (a' := ?_) #[true, true, true, true, true, true, true, true, true, true, true, true, true, true, true, true, true, true, true, true, false, false, false, false, false, false, false, false, false, false, false, false, false, false, false, false] rfl rfl (by kernel_rfl) (fun _ _ _ h => h) (Or.inl ⟨by rfl, ?_⟩) ?_ ?_
            rotate_left
            · intro w'
              go_simp
              with_reducible rfl
            rotate_left
            · simp only [Act.put, List.setIfInBounds_toArray, List.set_cons_zero, List.set_cons_succ, i64_w, i32_w]
              rfl
            refine pure_ (i := 20) (N := some 103) (v := ?_) (a' := ?_) #[true, true, true, true, true, true, true, true, true, true, true, true, true, true, true, true, true, true, true, true, true, false, false, false, false, false, false, false, false, false, false, false, false, false, false, false] rfl rfl (by kernel_rfl) (fun _ _ _ h => h) (Or.inl ⟨by rfl, ?_⟩) ?_ ?_
            rotate_left
            · intro w'
              go_simp
              with_reducible rfl
            rotate_left
            · simp only [Act.put, List.setIfInBounds_toArray, List.set_cons_zero, List.set_cons_succ, i64_w, i32_w]
              rfl
            refine pure_ (i := 21) (N := some 104) (v := ?_) (a' := ?_) #[true, true, true, true, true, true, true, true, true, true, true, true, true, true, true, true, true, true, true, true, true, true, false, false, false, false, false, false, false, false, false, false, false, false, false, false] rfl rfl (by kernel_rfl) (fun _ _ _ h => h) (Or.inl ⟨by rfl, ?_⟩) ?_ ?_
            rotate_left
            · intro w'
              go_simp
              with_reducible rfl
            rotate_left
            · simp only [Act.put, List.setIfInBounds_toArray, List.set_cons_zero, List.set_cons_succ, i64_w, i32_w]
              rfl
            refine take_ (i := 22) (N := some 105) (v := ?_) (a' := ?_) #[true, true, true, true, true, true, true, true, true, true, true, true, true, true, true, true, true, true, true, true, true, true, true, false, false, false, false, false, false, false, false, false, false, false, false, false] rfl rfl (by kernel_rfl) (fun _ _ _ h => h) (Or.inl ⟨by rfl, ?_⟩) hHeld ?_ ?_
            rotate_left
            · rintro w' ⟨s0, s1⟩
              go_simp
              with_reducible rfl
            rotate_left
            · simp only [Act.put, List.setIfInBounds_toArray, List.set_cons_zero, List.set_cons_succ, i64_w, i32_w]
              rfl
            refine one_ (i := 23) (N := some 106) #[true, true, true, true, true, true, true, true, true, true, true, true, true, true, true, true, true, true, true, true, true, true, true, true, false, false, false, false, false, false, false, false, false, false, false, false] rfl rfl (by kernel_rfl) (by decide) (fun K hK => ?_)
            refine goes_ Try.func21 (by kernel_rfl) rfl #[vr4, vr] (by rfl) rfl rfl (by simp only [List.map_toArray, List.map_cons, List.map_nil]; rfl) ?_
            with_reducible refine (equal_same _ _ vr4 vr R w6 (HT.out.2.2.1.below HB6.out) (HT.out.2.2.2.S.below HB6.out) HRL.out).mono ?_
            rintro e w7 ⟨rfl, m7, hw7⟩
            have HB7 : Hid (Below w5.heap.size w5 w7) := hidI (by rw [hw7]; exact below_drewN HB6.out m7)
            have p1 := pw_cell_below HB7.out s1
            have p0 := pw_cell_below HB7.out s0
            clear hw7
            refine ⟨_, rfl, ?_⟩
            refine hK.out _ _ ⟨p1, p0⟩ (fun hHeld => ?_)
            clear hK K
            refine norm_ (a' := ?_) ?_ ?_
            rotate_left
            · show Act.put _ (some 106) _ = _
              simp only [Act.put, List.setIfInBounds_toArray, List.set_cons_zero, List.set_cons_succ, i64_w, i32_w]
              rfl
            refine pure_ (i := 24) (N := some 107) (v := ?_) (a' := ?_) #[true, true, true, true, true, true, true, true, true, true, true, true, true, true, true, true, true, true, true, true, true, true, true, true, true, false, false, false, false, false, false, false, false, false, false, false] rfl rfl (by kernel_rfl) (fun _ _ _ h => h) (Or.inl ⟨by rfl, ?_⟩) ?_ ?_
            rotate_left
            · intro w'
              go_simp
              with_reducible rfl
            rotate_left
            · simp only [Act.put, List.setIfInBounds_toArray, List.set_cons_zero, List.set_cons_succ, i64_w, i32_w]
              rfl
            refine pure_ (i := 25) (N := some 108) (v := ?_) (a' := ?_) #[true, true, true, true, true, true, true, true, true, true, true, true, true, true, true, true, true, true, true, true, true, true, true, true, true, true, false, false, false, false, false, false, false, false, false, false] rfl rfl (by kernel_rfl) (fun _ _ _ h => h) (Or.inl ⟨by rfl, ?_⟩) ?_ ?_
            rotate_left
            · intro w'
              go_simp
              with_reducible rfl
            rotate_left
            · simp only [Act.put, List.setIfInBounds_toArray, List.set_cons_zero, List.set_cons_succ, i64_w, i32_w]
              rfl
            refine pure_ (i := 26) (N := some 109) (v := ?_) (a' := ?_) #[true, true, true, true, true, true, true, true, true, true, true, true, true, true, true, true, true, true, true, true, true, true, true, true, true, true, true, false, false, false, false, false, false, false, false, false] rfl rfl (by kernel_rfl) (fun _ _ _ h => h) (Or.inl ⟨by rfl, ?_⟩) ?_ ?_
            rotate_left
            · intro w'
              go_simp
              with_reducible rfl
            rotate_left
            · simp only [Act.put, List.setIfInBounds_toArray, List.set_cons_zero, List.set_cons_succ, i64_w, i32_w]
              rfl
            as_aux_lemma =>
              refine pure_ (i := 27) (N := some 110) (v := ?_) (a' := ?_) #[true, true, true, true, true, true, true, true, true, true, true, true, true, true, true, true, true, true, true, true, true, true, true, true, true, true, true, true, false, false, false, false, false, false, false, false] rfl rfl (by kernel_rfl) (fun _ _ _ h => h) (Or.inl ⟨by rfl, ?_⟩) ?_ ?_
              rotate_left
              · intro w'
                go_simp
                with_reducible rfl
              rotate_left
              · simp only [Act.put, List.setIfInBounds_toArray, List.set_cons_zero, List.set_cons_succ, i64_w, i32_w]
                rfl
              refine pure_ (i := 29) (N := some 112) (v := ?_) (a' := ?_) #[true, true, true, true, true, true, true, true, true, true, true, true, true, true, true, true, true, true, true, true, true, true, true, true, true, true, true, true, false, true, false, false, false, false, false, false] rfl rfl (by kernel_rfl) (fun _ _ _ h => h) (Or.inl ⟨by rfl, ?_⟩) ?_ ?_
              rotate_left
              · intro w'
                go_simp
                with_reducible rfl
              rotate_left
              · simp only [Act.put, List.setIfInBounds_toArray, List.set_cons_zero, List.set_cons_succ, i64_w, i32_w]
                rfl
              refine pure_ (i := 30) (N := some 113) (v := ?_) (a' := ?_) #[true, true, true, true, true, true, true, true, true, true, true, true, true, true, true, true, true, true, true, true, true, true, true, true, true, true, true, true, false, true, true, false, false, false, false, false] rfl rfl (by kernel_rfl) (fun _ _ _ h => h) (Or.inl ⟨by rfl, ?_⟩) ?_ ?_
              rotate_left
              · intro w'
                go_simp
                with_reducible rfl
              rotate_left
              · simp only [Act.put, List.setIfInBounds_toArray, List.set_cons_zero, List.set_cons_succ, i64_w, i32_w]
                rfl
              refine pure_ (i := 31) (N := some 114) (v := ?_) (a' := ?_) #[true, true, true, true, true, true, true, true, true, true, true, true, true, true, true, true, true, true, true, true, true, true, true, true, true, true, true, true, false, true, true, true, false, false, false, false] rfl rfl (by kernel_rfl) (fun _ _ _ h => h) (Or.inl ⟨by rfl, ?_⟩) ?_ ?_
              rotate_left
              · intro w'
                go_simp
                with_reducible rfl
              rotate_left
              · simp only [Act.put, List.setIfInBounds_toArray, List.set_cons_zero, List.set_cons_succ, i64_w, i32_w]
                rfl
              refine take_ (i := 32) (N := some 115) (v := ?_) (a' := ?_) #[true, true, true, true, true, true, true, true, true, true, true, true, true, true, true, true, true, true, true, true, true, true, true, true, true, true, true, true, false, true, true, true, true, false, false, false] rfl rfl (by kernel_rfl) (fun _ _ _ h => h) (Or.inl ⟨by rfl, ?_⟩) hHeld ?_ ?_
              rotate_left
              · rintro w' ⟨s0, s1⟩
                go_simp
                with_reducible rfl
              rotate_left
              · simp only [Act.put, List.setIfInBounds_toArray, List.set_cons_zero, List.set_cons_succ, i64_w, i32_w]
                rfl
              refine one_ (i := 28) (N := some 111) #[true, true, true, true, true, true, true, true, true, true, true, true, true, true, true, true, true, true, true, true, true, true, true, true, true, true, true, true, true, true, true, true, true, false, false, false] rfl rfl (by kernel_rfl) (by decide) (fun K hK => ?_)
              refine goes_ Try.func28 (by kernel_rfl) rfl #[.pointer (some ⟨d, 0, none⟩)] (by rfl) rfl rfl (by simp only [List.map_toArray, List.map_cons, List.map_nil]; rfl) ?_
              with_reducible refine (all_any _ d v1 v4 ⟨bs2, [], -1, false⟩ w7 (HB5.out.D.below HB7.out) HBL.out).mono ?_
              rintro e w8 ⟨vw8, rfl, hS8, hb8⟩
              have HS8 : Hid (Strs w8 w7.heap.size vw8 bs2) := hidI hS8
              have HB8 : Hid (Below w5.heap.size w5 w8) := hidI (below_step HB7.out hb8)
              have q1 := pw_cell_below HB8.out s1
              have q0 := pw_cell_below HB8.out s0
              clear hS8 hb8
              refine ⟨_, rfl, ?_⟩
              refine hK.out _ _ ⟨q1, q0⟩ (fun hHeld => ?_)
              clear hK K
              refine norm_ (a' := ?_) ?_ ?_
              rotate_left
              · show Act.put _ (some 111) _ = _
                simp only [Act.put, List.setIfInBounds_toArray, List.set_cons_zero, List.set_cons_succ, i64_w, i32_w]
                rfl
              refine one_ (i := 33) (N := some 116) #[true, true, true, true, true, true, true, true, true, true, true, true, true, true, true, true, true, true, true, true, true, true, true, true, true, true, true, true, true, true, true, true, true, true, false, false] rfl rfl (by kernel_rfl) (by decide) (fun K hK => ?_)
              refine goes_ Try.func21 (by kernel_rfl) rfl #[vw8, ua] (by rfl) rfl rfl (by simp only [List.map_toArray, List.map_cons, List.map_nil]; rfl) ?_
              with_reducible refine (equal_same _ _ vw8 ua bs2 w8 HS8.out (HT.out.2.2.2.E.own.below HB8.out) HBL.out).mono ?_
              rintro e w9 ⟨rfl, m9, hw9⟩
              have HB9 : Hid (Below w5.heap.size w5 w9) := hidI (by rw [hw9]; exact below_drewN HB8.out m9)
              have r1 := pw_cell_below HB9.out s1
              have r0 := pw_cell_below HB9.out s0
              clear hw9
              refine ⟨_, rfl, ?_⟩
              refine hK.out _ _ ⟨r1, r0⟩ (fun hHeld => ?_)
              clear hK K
              refine norm_ (a' := ?_) ?_ ?_
              rotate_left
              · show Act.put _ (some 116) _ = _
                simp only [Act.put, List.setIfInBounds_toArray, List.set_cons_zero, List.set_cons_succ, i64_w, i32_w]
                rfl
              refine pure_ (i := 34) (N := some 117) (v := ?_) (a' := ?_) #[true, true, true, true, true, true, true, true, true, true, true, true, true, true, true, true, true, true, true, true, true, true, true, true, true, true, true, true, true, true, true, true, true, true, true, false] rfl rfl (by kernel_rfl) (fun _ _ _ h => h) (Or.inl ⟨by rfl, ?_⟩) ?_ ?_
              rotate_left
              · intro w'
                go_simp
                with_reducible rfl
              rotate_left
              · simp only [Act.put, List.setIfInBounds_toArray, List.set_cons_zero, List.set_cons_succ, i64_w, i32_w]
                rfl
              refine pure_ (i := 35) (N := some 118) (v := ?_) (a' := ?_) #[true, true, true, true, true, true, true, true, true, true, true, true, true, true, true, true, true, true, true, true, true, true, true, true, true, true, true, true, true, true, true, true, true, true, true, true] rfl rfl (by kernel_rfl) (fun _ _ _ h => h) (Or.inl ⟨by rfl, ?_⟩) ?_ ?_
              rotate_left
              · intro w'
                go_simp
                with_reducible rfl
              rotate_left
              · simp only [Act.put, List.setIfInBounds_toArray, List.set_cons_zero, List.set_cons_succ, i64_w, i32_w]
                rfl
              refine done_ (by kernel_rfl) ?_
              have HB9J : Hid (BJ w w9 d j v1 v4 ⟨bs2, [], -1, false⟩ a R.length) := hidI (HB5.out.below HB9.out)
              have HT9 : Hid (Strs w9 wy.heap.size vr4 R) := hidI (HT.out.2.2.1.below HB9.out)
              clear hHeld r1 r0 s1 s0 n1 n0 p1 p0 q1 q0 HT HB5 HB6 HB7 HB8 HB9 HS8
              go_wp2_with fail
              with_reducible refine (fail_any w.heap.size d v1 v4 ⟨bs2, [], -1, false⟩ 0 w9 HB9J.out.D).mono ?_
              rintro e wf ⟨rfl, v5, hDf, hFf, hPf⟩
              have hDf : DT wf w.heap.size d v1 v5 ⟨bs2, [], 0, false⟩ := hDf
              have HBf : Hid (Below w.heap.size w wf) := hidI (HB9J.out.bel.trans (Fr.toB hFf (fun q hq => DS_ge HB9J.out.D HB9J.out.hd hq) HB9J.out.bel.size))
              have HDf := hidI hDf
              have HJf : Hid (JB wf j d a R.length) := hidI (hFf.blk HB9J.out.J (notDSj HB9J.out.D HB9J.out.J))
              have HTf : Hid (Strs wf wy.heap.size vr4 R) := hidI (HT9.out.fr hFf (fun q hq hn => HN4.out q hq (.inl hn)))
              have HNf : Hid (∀ q, vr4.ownBlock = some q → ¬ DS d v1 v5 q) := hidI (fun q hq hn => by
                rcases hPf q hn with h1 | h1
                · exact HN4.out q hq (.inl h1)
                · have := HT9.out.lt hq; omega)
              have hO9 := open_any w.heap.size d v1 v5 bs2 R 0 a 0 wf HDf.out (jn_goodF H642.out 0 (by decide)) HBf.out.size (by rw [HL2.out]; omega) (by omega) (HJn.out.end_ (by rw [HL2.out]; omega))
              rw [erL_same _ _ _ (fun y hy => by
                  obtain ⟨i, hi, rfl⟩ := List.getElem_of_mem hy
                  rw [List.getElem_drop]
                  exact HJn.out.zero _ _ (by omega))] at hO9
              have hdd : w.heap.size ≤ d := HB9J.out.hd
              clear hDf hFf hPf HB9J HT9
              simp only []
              go_wp2_with fail
              with_reducible refine hO9.mono ?_
              intro e wg hOg
              obtain ⟨v6, j2, vr9, rfl, hBg, hSg, hNg, hFg, hPg⟩ := BJ.openF HBf.out hdd HDf.out hOg
              have HSg := hidI hSg
              have HTg : Hid (Strs wg wy.heap.size vr4 R) := hidI (HTf.out.fr hFg (fun q hq hn => HNf.out q hq hn))
              have HJg : Hid (JB wg j d a R.length) := hidI (hFg.blk HJf.out (notDSj HDf.out HJf.out))
              have HBg : Hid (BJ w wg d j2 v1 v6 ⟨bs2, [], 0, false⟩ a R.length) := hidI hBg
              clear hOg hBg hSg hNg hFg hPg hO9 HBf HDf HJf HTf HNf
              simp only []
              go_wp2_with fail
              with_reducible refine (equal_same _ _ vr9 vr4 R wg HSg.out HTg.out HRL.out).mono ?_
              rintro e wh ⟨rfl, mh, hwh⟩
              have hbh : Below wg.heap.size wg wh := by rw [hwh]; exact below_drewN (Below.refl _ _) mh
              have HBh : Hid (BJ w wh d j2 v1 v6 ⟨bs2, [], 0, false⟩ a R.length ∧ JB wh j d a R.length) := hidI ⟨HBg.out.below hbh, Blk.be HJg.out hbh⟩
              have hLeft := jleft_any w.heap.size j d a R.length v1 v6 ⟨bs2, [], 0, false⟩ wh HBh.out.1.D HBh.out.2 HBL.out (by show a ≤ bs2.length; rw [HL2.out]; omega)
              obtain ⟨z, hz⟩ : ∃ z : Int, z = ((bs2.length - a : Nat) : Int) := ⟨_, rfl⟩
              have hz0 : (((⟨bs2, [], 0, false⟩ : DkS).bs.length - a : Nat) : Int) = z := hz.symm
              rw [hz0] at hLeft
              have HZ : Hid (z = ((l.length - a : Nat) : Int)) := hidI (by rw [hz, HL2.out])
              have hz1 : (z == wrap64 ((l.length : Int) - (a : Int))) = true := by rw [HZ.out, beq_iff_eq]; unfold wrap64; omega
              have hz2 : (z == (l.length : Int) - (a : Int)) = true := by rw [HZ.out, beq_iff_eq]; omega
              clear hwh hbh hz hz0 HBg HJg HTg HSg
              simp only []
              go_wp2_with fail
              with_reducible refine hLeft.mono ?_
              rintro e wi ⟨rfl, hwi⟩
              have hfin : Hid (Tru8 w (.returned (.bool true)) wi) := hidI ⟨rfl, by rw [hwi]; exact HBh.out.1.bel.drew⟩
              clear hwi hLeft
              simp only []
              go_wp2_with fail
              go_ret
              exact hfin.out
end Go.Proofs.Ytckfkbmefdmedaa
namespace Go.Proofs.Rk
open Go.ChangeShapes Go.WideShapes Go.ChangeAt Go.RowKit Go.Proofs.YtckfkbmefdmedaaW.PrintWords
set_option linter.unusedVariables false
set_option linter.unusedSimpArgs false
def RdK (P : Program) (t : TypeId) {α : Type} (κ : Kd α) (ok : α → Prop) : Prop :=
  ∀ {H : Type} {enc : TypeId × Value → H} {w : World} {base : Nat} {spare : Nat → Bool} {held : Bool} {fuel : Nat} {cs : List Value} {x : DataW H × List MemPlace},
    DataW.trod enc P w base spare held fuel t cs = some x → (∀ n ∈ x.1.weights P t, n ≤ reachBytes) → ∃ a, κ.K w a cs ∧ ok a
section
variable {P : Program}
theorem RdK.int {t : TypeId} {k : IntKind} (h : P.underlying t = some (.int k)) : RdK P t (Kd.int k) (fun n => (Lit.int k n).wf = true) := by
  intro H enc w base spare held fuel cs x h' _
  obtain ⟨n, rfl, _, hw⟩ := DataW.trod_int h h'
  exact ⟨n, rfl, hw⟩
theorem RdK.bool {t : TypeId} (h : P.underlying t = some .bool) : RdK P t Kd.bool (fun _ => True) := by
  intro H enc w base spare held fuel cs x h' _
  obtain ⟨b, rfl, _⟩ := DataW.trod_bool h h'
  exact ⟨b, rfl, trivial⟩
theorem RdK.str {t : TypeId} (h : P.underlying t = some .string) : RdK P t Kd.string (fun s => s.size ≤ 140737488351232) := by
  intro H enc w base spare held fuel cs x h' hw
  obtain ⟨s, rfl, rfl, _⟩ := DataW.trod_string h h'
  refine ⟨s, rfl, ?_⟩
  have := hw s.data.toList.length (by simp [DataW.weights])
  simpa [reachBytes] using this
theorem weightsAll_mem {H : Type} {e : TypeId} : ∀ {l : List (DataW H)} {d : DataW H} {n : Nat}, d ∈ l → n ∈ d.weights P e → n ∈ DataW.weightsAll P e l
  | [], _, _, h, _ => by simp at h
  | x :: l, d, n, h, hn => by
    simp only [DataW.weightsAll, List.mem_append]
    rcases List.mem_cons.1 h with rfl | h
    · exact .inl hn
    · exact .inr (weightsAll_mem h hn)
theorem RdK.slice {t e : TypeId} {α : Type} {κ : Kd α} {ok : α → Prop} (hr : RdK P e κ ok) (q : Nat) {C B : Nat} (hC : P.cellsOf e = C) (hC' : C = κ.sz) (hB : P.bytesOf e = B) (ht : P.underlying t = some (.slice e)) :
    RdK P t (Kd.slice q κ) (fun xs => (∀ x ∈ xs, ok x) ∧ xs.length * B ≤ 140737488351232) := by
  intro H enc w base spare held fuel cs x h' hw
  subst hC'
  rcases DataW.trod_slice ht h' with ⟨rfl, _⟩ | ⟨a, l, c, elems, rest, n, _, rfl, hx, hb, hlc, hcm, hel, hi, _⟩
  · exact ⟨[], ⟨none, 0, rfl, Nat.le_refl _, rfl, by simp, fun h => absurd h (by simp)⟩, fun x hx => by simp at hx, by simp⟩
  · subst hx
    have hwe : ∀ (i : Nat) (h : i < elems.length), ∀ n ∈ (elems[i]).1.weights P e, n ≤ reachBytes := by
      intro i h n hn
      refine hw n ?_
      simp only [DataW.weights, ht, List.mem_cons, List.mem_append]
      exact .inr (.inl (weightsAll_mem (List.mem_map.2 ⟨_, List.getElem_mem h, rfl⟩) hn))
    have hlb : l * B ≤ 140737488351232 := by
      have h1 := hw ((elems.length + rest.length) * P.bytesOf e) (by simp [DataW.weights, ht])
      have h2 := Nat.mul_le_mul_right (P.bytesOf e) (Nat.le_add_right elems.length rest.length)
      rw [hB] at h1 h2
      rw [hel] at h2 h1
      have h3 := Nat.le_trans h2 h1
      simpa [reachBytes] using h3
    obtain ⟨xs, hxl, hxs⟩ := list_of (Q := fun i (x : α) => ok x ∧ ∃ cs : List Value, κ.K w x cs ∧ ∀ (j : Nat) (v : Value), cs[j]? = some v → w.cell? (a.add (i * κ.sz + j)) = some v) l (fun i hlt => by
      have h1 := hi i hlt
      rw [List.getElem?_eq_getElem (by omega)] at h1
      obtain ⟨cs, hcs, htr⟩ := Option.bind_eq_some_iff.1 h1
      obtain ⟨x, hK, hok⟩ := hr htr (hwe i (by omega))
      obtain ⟨_, hl, hat⟩ := World.cells?_some hcs
      refine ⟨x, hok, cs, hK, fun j v hj => ?_⟩
      have hjl : j < P.cellsOf e := by
        rw [← hl]; exact (List.getElem?_eq_some_iff.1 hj).1
      have := hat j hjl
      rw [hj, hC] at this
      rw [add_add] at this
      exact this)
    have hcm' : c ≤ 9223372036854775807 := hcm
    subst hxl
    refine ⟨xs, ⟨some a, c, rfl, hlc, rfl, by omega, fun _ => ⟨a, rfl, fun j p hj => ?_⟩⟩, fun x hx => ?_, hlb⟩
    · obtain ⟨hjl, rfl⟩ := List.getElem?_eq_some_iff.1 hj
      obtain ⟨_, cs, hK, hc⟩ := hxs j hjl
      exact ⟨cs, κ.K_len hK, hK, hc⟩
    · obtain ⟨i, hlt, rfl⟩ := List.getElem_of_mem hx
      exact (hxs i hlt).1
variable {H : Type} {enc : TypeId × Value → H} {w : World} {base : Nat} {spare : Nat → Bool} {held : Bool}
theorem weights_at {ts : List TypeId} {ds : List (DataW H)} (hsz : (DataW.weightsEach P ts ds).all (· ≤ reachBytes) = true) {j : Nat} {t : TypeId} {d : DataW H} (ht : ts[j]? = some t) (hd : ds[j]? = some d) : ∀ n ∈ d.weights P t, n ≤ reachBytes := fun n hn => by
  have := List.all_eq_true.1 hsz _ (DataW.weights_mem_each ht hd n hn)
  simpa using this
theorem arg_slice {t : TypeId} {α : Type} {κ : Kd α} {q : Nat} {ok' : List α → Prop} (hr : RdK P t (Kd.slice q κ) ok') {ts : List TypeId} {ds : List (DataW H)} (hsz : (DataW.weightsEach P ts ds).all (· ≤ reachBytes) = true) {j : Nat} {d : DataW H} {ps : List MemPlace} (ht : ts[j]? = some t) (hd : ds[j]? = some d)
    {ad : Option Addr} {len cap : Nat} (h : DataW.Trod enc P w base spare held t (.slice ad len cap) d ps) : ∃ xs : List α, len = xs.length ∧ xs.length ≤ cap ∧ Kd.C κ w ad xs.length xs ∧ ok' xs := by
  obtain ⟨fuel, hf⟩ := h
  obtain ⟨xs, ⟨A, c, e, hc, hC⟩, ho⟩ := hr hf (weights_at hsz ht hd)
  simp [Value.cells] at e
  obtain ⟨rfl, rfl, rfl⟩ := e
  exact ⟨xs, rfl, hc, hC, ho⟩
end
end Go.Proofs.Rk
namespace Go.Proofs.Ytckfkbmefdmedaa
open Go.RowKit Go.Proofs.Rk Go.Proofs.YtckfkbmefdmedaaW.PrintWords Go.Proofs.Ytckfkbmefdmedaa.Q
set_option linter.unusedVariables false
theorem walk9 (a1 : Option Addr) (xs : List ByteArray) (c1 : Nat) (w : World) (l1 : xs.length ≤ c1) (h1 : Kd.C Kd.string w a1 xs.length xs) (y1 : (∀ s ∈ xs, s.size ≤ 140737488351232) ∧ xs.length * 16 ≤ 140737488351232) :
    Calls Try.prog 9 #[.slice a1 xs.length c1] w fun e w' => e = .returned (.bool true) ∧ Below w.heap.size w w' :=
  jopens_any a1 c1 xs w h1 l1 (by have := y1.2; omega) y1.1
end Go.Proofs.Ytckfkbmefdmedaa
