/- What the statement leans on, part 2: functions of the program and of the reference as Lean functions, their contracts, and plain laws. -/
import Derived.Laws.StructEq
import Derived.Shelf.SlGeneric
import Derived.Shelf.Spec.SlicesGrow
import Derived.Ground.Names8Prog
import Derived.RangeFuncNested
import Derived.RangeFuncBound
import Derived.RangeFuncCalls
import Derived.RangeFuncLeaves
import Derived.Shelf.Abstract
import Derived.Shelf.RegionOpen
import Derived.OwnWalkIn
import Derived.TacticsInMore
import Derived.LoopNIn
import Derived.LoopIn
import Derived.Laws.CopyOwn
import Derived.Test.YtckfkbmefdmedaaMJF1
namespace Go.Proofs.Ytckfkbmefdmedaa
open Go.RowKit Go.Proofs.Kq Go.Proofs.Ytckfkbmefdmedaa.Q Go.Proofs.YtckfkbmefdmedaaW.PrintWords Go
set_option linter.unusedVariables false
set_option linter.unusedSimpArgs false
def Rec (number : Int) (l : List ByteArray) (p : ByteArray) (n : Nat) : Prop := 0 < n ∧ n ≤ 255 ∧ n ≤ l.length ∧ cntL (bl p).length = n ∧ l.take n = blkR number (bl p) n 0 n
theorem Rec.at_ {number : Int} {l : List ByteArray} {p : ByteArray} {n : Nat} (h : Rec number l p n) (i : Nat) (hi : i < n) (hl : i < l.length) : l[i] = oneF number i n (chunk (bl p) i) := by
  have h1 := h.2.2.2.2
  have h2 : (l.take n)[i]'(by rw [List.length_take]; omega) = l[i] := List.getElem_take
  rw [← h2]
  have h3 := blkR_get number (bl p) n n 0 i hi
  rw [Nat.zero_add] at h3
  rw [← h3]
  congr 1
theorem chunk_le (L : List UInt8) (i : Nat) : (chunk L i).size ≤ 49 := by rw [chunk_size]; omega
theorem bl_chunk (L : List UInt8) (i : Nat) : bl (chunk L i) = (L.drop (49 * i)).take 49 := by simp [chunk, bl]
theorem take_chunk (L : List UInt8) (i : Nat) : L.take (49 * i) ++ bl (chunk L i) = L.take (49 * (i + 1)) := by
  rw [bl_chunk, Nat.mul_succ, List.take_add]
theorem rec_ok {number : Int} {l : List ByteArray} {p : ByteArray} {n : Nat} (h : Rec number l p n) (i : Nat) (hi : i < n) (hl : i < l.length) : okB number i l[i] = true ∧ cntB l[i] = n ∧ datB l[i] = chunk (bl p) i := by
  have e := h.at_ i hi hl
  have hc := chunk_le (bl p) i
  have hn : n < 256 := by have := h.2.1; omega
  have e1 : cntB l[i] = n := by rw [e]; exact one_cnt _ _ _ _ hn
  have e2 : datB l[i] = chunk (bl p) i := by rw [e]; exact one_dat _ _ _ _ hc
  have e3 : lenB l[i] = (chunk (bl p) i).size := by rw [e]; exact one_len _ _ _ _ hc
  have e4 : l[i].size = 64 := by rw [e]; exact one_size _ _ _ _ hc
  have hcn := h.2.2.2.1
  unfold cntL at hcn
  have e5 : (chunk (bl p) i).size = min 49 ((bl p).length - 49 * i) := chunk_size _ _
  refine ⟨?_, e1, e2⟩
  unfold okB
  rw [e1, e2, e3, e4, ← e]
  simp only [Bool.and_eq_true, decide_eq_true_eq, Bool.not_eq_true', Bool.and_eq_false_iff, decide_eq_false_iff_not]
  refine ⟨⟨⟨⟨⟨trivial, hc⟩, by omega⟩, trivial⟩, hi⟩, by omega⟩
theorem unp_rec {number : Int} {l : List ByteArray} {p : ByteArray} {n : Nat} (h : Rec number l p n) : ∀ r i, i + r = n → 0 < r → unpF number l (l.length - i) i ((bl p).take (49 * i)) = (p, (n : Int), 0)
  | 0, i, hi, h0 => absurd h0 (by omega)
  | r + 1, i, hi, _ => by
    have hl : i < l.length := by have := h.2.2.1; omega
    obtain ⟨h1, h2, h3⟩ := rec_ok h i (by omega) hl
    have e3 : (bl p).take (49 * i) ++ (datB l[i]).data.toList = (bl p).take (49 * (i + 1)) := by rw [h3]; exact take_chunk _ _
    by_cases hr : r = 0
    · have hn : n = i + 1 := by omega
      rw [unpF_end number l i _ hl h1 (by omega), if_pos, e3]
      · have hcn := h.2.2.2.1
        unfold cntL at hcn
        rw [List.take_of_length_le (by omega), hn, ← ba_of]
      · unfold wholeB
        rw [List.all_eq_true]
        intro x hx
        obtain ⟨j, hj, rfl⟩ := List.getElem_of_mem hx
        rw [List.length_take] at hj
        rw [List.getElem_take, decide_eq_true_eq, (rec_ok h j (by omega) (by omega)).2.1, hn]
    · rw [unpF_next number l i _ hl h1 (by omega) (by have := h.2.1; omega), e3]
      exact unp_rec h r (i + 1) (by omega) (by omega)
theorem chunk_app (L M : List UInt8) (j : Nat) (h : 49 * (j + 1) ≤ L.length) : chunk (L ++ M) j = chunk L j := by
  unfold chunk
  rw [List.drop_append_of_le_length (by omega), List.take_append_of_le_length (by rw [List.length_drop]; omega)]
theorem chunk_end (L M : List UInt8) (i : Nat) (h : L.length = 49 * i) (hM : M.length ≤ 49) : chunk (L ++ M) i = ⟨M.toArray⟩ := by
  unfold chunk
  rw [← h, List.drop_left, List.take_of_length_le hM]
theorem okB_parts {number : Int} {i : Nat} {s : ByteArray} (h : okB number i s = true) : s.size = 64 ∧ lenB s ≤ 49 ∧ 0 < lenB s ∧ oneF number i (cntB s) (datB s) = s ∧ i < cntB s ∧ ¬ (i + 1 < cntB s ∧ lenB s < 49) := by
  unfold okB at h
  simp only [Bool.and_eq_true, decide_eq_true_eq, Bool.not_eq_true', Bool.and_eq_false_iff, decide_eq_false_iff_not] at h
  obtain ⟨⟨⟨⟨⟨a, b⟩, c⟩, d⟩, e⟩, f⟩ := h
  exact ⟨a, b, c, d, e, by omega⟩
theorem datB_size {s : ByteArray} (h : s.size = 64) (hl : lenB s ≤ 49) : (datB s).size = lenB s := by unfold datB; rw [ByteArray.size_extract]; omega
theorem cntB_lt (s : ByteArray) : cntB s < 256 := by unfold cntB; exact UInt8.toNat_lt _
theorem unp_norec (number : Int) (l : List ByteArray) (hno : ∀ p n, ¬ Rec number l p n) : ∀ d i (out : List UInt8), i + d = l.length → out.length = 49 * i → (∀ j (hj : j < l.length), j < i → okB number j l[j] = true ∧ chunk out j = datB l[j]) → unpF number l d i out = badU
  | 0, i, out, hi, ho, hI => rfl
  | d + 1, i, out, hi, ho, hI => by
    have hl : i < l.length := by omega
    have ed : d + 1 = l.length - i := by omega
    by_cases hok : okB number i l[i] = true
    · obtain ⟨h64, hl49, hl0, hone, hc, hm⟩ := okB_parts hok
      have hds := datB_size h64 hl49
      have hdl : (datB l[i]).data.toList.length = lenB l[i] := by rw [← hds, ba_size]; rfl
      by_cases hq : cntB l[i] = i + 1
      · rw [ed, unpF_end number l i out hl hok hq]
        by_cases hw : wholeB (l.take (i + 1)) (i + 1) = true
        · exfalso
          refine hno ⟨(out ++ (datB l[i]).data.toList).toArray⟩ (i + 1) ⟨by omega, by have := cntB_lt l[i]; omega, by omega, ?_, ?_⟩
          · unfold cntL bl; simp only [List.length_append, hdl]; omega
          · have hbl : bl ⟨(out ++ (datB l[i]).data.toList).toArray⟩ = out ++ (datB l[i]).data.toList := by simp [bl]
            rw [hbl]
            refine List.ext_getElem (by rw [blkR_len, List.length_take]; omega) ?_
            intro j hj1 hj2
            rw [blkR_len] at hj2
            rw [blkR_get number _ (i + 1) (i + 1) 0 j hj2, List.getElem_take, Nat.zero_add]
            have hcj : cntB l[j] = i + 1 := by
              unfold wholeB at hw
              rw [List.all_eq_true] at hw
              have := hw l[j] (by
                have hm2 := List.getElem_mem (l := l.take (i + 1)) (n := j) hj1
                rwa [List.getElem_take] at hm2)
              simpa using this
            by_cases hji : j = i
            · subst hji
              rw [chunk_end _ _ _ ho (by omega)]
              conv => lhs; rw [← hone]
              rw [hq]
            · obtain ⟨g1, g2⟩ := hI j (by omega) (by omega)
              rw [chunk_app _ _ _ (by omega), g2]
              have := (okB_parts g1).2.2.2.1
              conv => lhs; rw [← this]
              rw [hcj]
        · rw [if_neg hw]
      · by_cases h5 : i + 1 = 255
        · rw [ed]; exact unpF_full number l i out hl hq h5
        · rw [ed, unpF_next number l i out hl hok hq h5, show l.length - (i + 1) = d by omega]
          refine unp_norec number l hno d (i + 1) _ (by omega) (by rw [List.length_append, hdl]; omega) ?_
          intro j hj hji
          by_cases e : j = i
          · subst e
            refine ⟨hok, ?_⟩
            rw [chunk_end _ _ _ ho (by omega)]
          · obtain ⟨g1, g2⟩ := hI j hj (by omega)
            exact ⟨g1, by rw [chunk_app _ _ _ (by omega)]; exact g2⟩
    · rw [ed]; exact unpF_bad number l i out hl (by simpa using hok)
theorem unp_ok {number : Int} {l : List ByteArray} {p : ByteArray} {n : Nat} (h : Rec number l p n) : unpF number l l.length 0 [] = (p, (n : Int), 0) := by
  have := unp_rec h n 0 (by omega) h.1
  simpa using this
theorem unp_none (number : Int) (l : List ByteArray) (hno : ∀ p n, ¬ Rec number l p n) : unpF number l l.length 0 [] = badU :=
  unp_norec number l hno l.length 0 [] (by omega) (by simp) (fun j _ h => absurd h (by omega))
end Go.Proofs.Ytckfkbmefdmedaa
namespace Go.Proofs.Ytckfkbmefdmedaa
open Go.RowKit Go.Proofs.Kq Go.Proofs.Ytckfkbmefdmedaa.Q Go.Proofs.YtckfkbmefdmedaaW.PrintWords Go
set_option linter.unusedVariables false
set_option linter.unusedSimpArgs false
theorem packs_rec (number : Int) (p : ByteArray) (c : Nat) (hc : cntL (bl p).length = c) (h1 : 0 < c) (h2 : c ≤ 255) (more : List ByteArray) : Rec number (blkR number (bl p) c 0 c ++ more) p c :=
  ⟨h1, h2, by rw [List.length_append, blkR_len]; omega, hc, by rw [List.take_left' (blkR_len _ _ _ _ _)]⟩
end Go.Proofs.Ytckfkbmefdmedaa
namespace Go.Proofs.Ytckfkbmefdmedaa
open Go.RowKit Go.Proofs.Kq Go.Proofs.Ytckfkbmefdmedaa.Q Go.Proofs.YtckfkbmefdmedaaW.PrintWords Go
set_option linter.unusedVariables false
set_option linter.unusedSimpArgs false
def Far (number : Int) (u : ByteArray) : Prop := u.size = 64 ∧ (bl u).drop 60 ≠ tagL ((number + 1) % 4294967296)
def tearZ (x u : ByteArray) (cut : Nat) : ByteArray := x.extract 0 cut ++ u.extract cut u.size
theorem tear_bl (x u : ByteArray) (cut : Nat) (hx : x.size = 64) (hu : u.size = 64) (hc : cut ≤ 64) : bl (tearZ x u cut) = (bl x).take cut ++ (bl u).drop cut := by
  unfold tearZ
  rw [bl_append, bl_extract, bl_extract, List.drop_zero, Nat.sub_zero, List.take_of_length_le (l := (bl u).drop cut) (by rw [List.length_drop, ← ba_size]; omega)]
def z64 : ByteArray := ⟨(Lib.repeatL [0] 64).toArray⟩
theorem far_zero (number : Int) (ha : 0 ≤ number) (ha2 : number < 4294967295) : Far number z64 := by
  have hb : bl z64 = List.replicate 64 0 := by
    unfold z64 bl
    have := Lib.repeatL_replicate 0 1 64
    simpa using this
  refine ⟨by rw [ba_size, hb]; simp, ?_⟩
  rw [hb, List.drop_replicate]
  intro h
  have h0 : tagL 0 = List.replicate 4 0 := rfl
  have := tagL_inj ((number + 1) % 4294967296) 0 (by omega) (by omega) (by omega) (by omega) (by rw [h0]; exact h.symm)
  omega
end Go.Proofs.Ytckfkbmefdmedaa
namespace Go.Proofs.Ytckfkbmefdmedaa.Q
open Go.RowKit Go.Proofs.YtckfkbmefdmedaaW.PrintWords Go.Proofs.YtckfkbmefdmedaaW.PrintLast Go.Proofs.YtckfkbmefdmedaaW.PrintMore
attribute [local go_sem] max2_int min2_int max_two min_two max_three min_three max_four min_four   -- for this text's walks alone
set_option linter.unusedVariables false
set_option linter.unusedSimpArgs false
def journal_Records.l0 : Nat → List ByteArray → List ByteArray → Int → Option (List ByteArray × Int)
 | 0, _, _, _ => none
 | k + 1, x0, x4, x5 => if x5 < (x0.length : Int) then (if (wrap64 (x5 + 255)) < (x0.length : Int) then (if 0 ≤ x5 then (if x5 ≤ (wrap64 (x5 + 255)) then (if (wrap64 (x5 + 255)) ≤ (x0.length : Int) then ((block_Unpack.f (x4.length : Int) ((x0.take ((wrap64 (x5 + 255)) : Int).toNat).drop (x5 : Int).toNat)).bind fun bt200 => (if bt200.2.2 = 0 then (if x4.length < 8796093022208 then (journal_Records.l0 k x0 (x4 ++ [bt200.1]) (wrap64 (x5 + bt200.2.1))) else (none)) else (some (x4, x5)))) else (none)) else (none)) else (none)) else (if 0 ≤ x5 then (if x5 ≤ (x0.length : Int) then (if (x0.length : Int) ≤ (x0.length : Int) then ((block_Unpack.f (x4.length : Int) ((x0.take ((x0.length : Int) : Int).toNat).drop (x5 : Int).toNat)).bind fun bt207 => (if bt207.2.2 = 0 then (if x4.length < 8796093022208 then (journal_Records.l0 k x0 (x4 ++ [bt207.1]) (wrap64 (x5 + bt207.2.1))) else (none)) else (some (x4, x5)))) else (none)) else (none)) else (none))) else (some (x4, x5))
def journal_Records.f (k : Nat) (l0 : List ByteArray) : Option (List ByteArray × Int) := journal_Records.l0 k l0 ([] : List ByteArray) 0
set_option maxHeartbeats 8000000 in
set_option maxRecDepth 100000 in
theorem journal_Records.calls (k : Nat) (A0 : Option Addr) (c0 : Nat) (l0 : List ByteArray) (r1 : List ByteArray) (r2 : Int) (w : World) (hr0 : Kd.C Kd.string w A0 l0.length l0) (hc0 : l0.length ≤ c0) (h : journal_Records.f k l0 = some (r1, r2)) :
  Calls Try.prog 49 #[.slice A0 l0.length c0] w fun e w' => ∃ v0_ : Value, e = .returned (.tuple #[v0_, .int .i64 r2]) ∧ Kd.R Kd.string 9 w' w.heap.size (fun _ => True) v0_ r1 ∧ Below w.heap.size w w' := by
 have HR0 := Aside0.mk hr0
 have HC0 := Aside0.mk hc0
 clear hr0 hc0
 have HB := Aside0.mk (Below.refl w.heap.size w)
 have H : (journal_Records.l0 k l0 ([] : List ByteArray) 0) = some (r1, r2) := h
 clear h
 have H' := Aside0.mk H
 clear H
 go_enter Try.func49, Try.ntmps49
 go_wp2
 go_loopg [4, 5] k (fun kq v4 v5 w' => ∃ (x4_1 : List ByteArray) (x5_1 : Int), v5 = .int .i64 x5_1 ∧ Aside0 (journal_Records.l0 kq l0 x4_1 x5_1 = some (r1, r2)) ∧ Aside0 (kq ≤ k) ∧ Aside0 (Kd.R Kd.string 9 w' w.heap.size (fun _ => True) v4 x4_1) ∧ Aside0 (Below w.heap.size w w'))
 case atStart => exact ⟨(([] : List ByteArray)), (0), (by first | rfl | (simp; done) | (simp [*]; done)), H', ⟨Nat.le_refl _⟩, ⟨by first | exact Kd.R_nil _ _ _ _ _ | exact Kd.N_nil _ _ _ _ _ | exact Kd.V_nil _ _ _ _ _ | exact Kd.Q_nil _ _ _ _ _ | exact Kd.S_nil _ _ _ _ _⟩, ⟨by repeat (first | (with_reducible first | exact HB.out | apply below_alloc | apply pw_below_drewN | apply below_drew1) | exact HB.out)⟩⟩
 case round =>
  clear H'
  obtain ⟨x4_1, x5_1, rfl, HA, HK1, HO_4, HB⟩ := hrel
  cases gk with
  | zero => exact absurd HA.out (by simp [journal_Records.l0])
  | succ k1 =>
   have H := HA.out
   clear HA
   simp only [journal_Records.l0] at H
   by_cases c2 : x5_1 < (l0.length : Int)
   ·rw [if_pos c2] at H
    have c2b0 : decide (x5_1 < (l0.length : Int)) = true := decide_eq_true c2
    clear c2
    by_cases c3 : (wrap64 (x5_1 + 255)) < (l0.length : Int)
    ·rw [if_pos c3] at H
     have c3i := eq_true c3
     have c3b0 : decide ((wrap64 (x5_1 + 255)) < (l0.length : Int)) = true := decide_eq_true c3
     clear c3
     by_cases c4 : 0 ≤ x5_1
     ·rw [if_pos c4] at H
      have c4b0 := eq_true c4
      have c4b1 : decide (0 ≤ x5_1) = true := decide_eq_true c4
      clear c4
      by_cases c5 : x5_1 ≤ (wrap64 (x5_1 + 255))
      ·rw [if_pos c5] at H
       have c5b0 := eq_true c5
       have c5b1 : decide (x5_1 ≤ (wrap64 (x5_1 + 255))) = true := decide_eq_true c5
       by_cases c6 : (wrap64 (x5_1 + 255)) ≤ (l0.length : Int)
       ·rw [if_pos c6] at H
        have c6b0 := eq_true c6
        have c6b1 : decide ((wrap64 (x5_1 + 255)) ≤ (l0.length : Int)) = true := decide_eq_true c6
        replace H := Option.bind_eq_some_iff.mp H
        obtain ⟨⟨t200, t201, t202⟩, A70, H⟩ := H
        replace H : (if t202 = 0 then (if x4_1.length < 8796093022208 then (journal_Records.l0 k1 l0 (x4_1 ++ [t200]) (wrap64 (x5_1 + t201))) else (none)) else (some (x4_1, x5_1))) = some (r1, r2) := H
        have A7 := Aside0.mk A70
        clear A70
        by_cases c8 : t202 = 0
        ·rw [if_pos c8] at H
         have c8b0 : (t202 == 0) = true := beq_iff_eq.mpr c8
         have c8b1 : (t202 != 0) = false := bne_eq_false_iff_eq.mpr c8
         clear c8
         by_cases c9 : x4_1.length < 8796093022208
         ·rw [if_pos c9] at H
          have LMc9 := Aside0.mk c9
          clear c9
          obtain ⟨y203, hy203⟩ : ∃ y_ : List ByteArray, y_ = (x4_1 ++ [t200]) := ⟨_, rfl⟩
          replace H : (journal_Records.l0 k1 l0 y203 (wrap64 (x5_1 + t201))) = some (r1, r2) := by first | (rw [hy203]; with_reducible exact H) | (have H2_ := (Option.bind_some _ _).symm.trans H; rw [hy203]; with_reducible exact H2_) | (have H2_ := (Option.bind_some _ _).symm.trans H; with_reducible exact H2_) | with_reducible exact H | (rw [hy203]; exact H) | exact H
          have Ny203 := Aside0.mk hy203
          clear hy203
          have H' := Aside0.mk H
          clear H
          obtain ⟨Ao10, co10, eo10⟩ := Kd.R_slice HO_4.out
          subst eo10
          obtain ⟨i011, hi011, _, hsz11, _⟩ := info_parts info9
          obtain ⟨A11, hcut11, hA11, hC11⟩ := print_mid_of (P := Try.prog) Value.string (⟨#[]⟩ : ByteArray) 22 9 .i64 .i64 Try.underlying22 hi011 hsz11 A0 c0 l0 x5_1 (wrap64 (x5_1 + 255)) (of_decide_eq_true (by first | (with_reducible assumption) | assumption)) (by first | omega | exact of_decide_eq_true (by first | (with_reducible assumption) | assumption)) (of_decide_eq_true (by first | (with_reducible assumption) | assumption)) HC0.out
          have HR199 := Aside0.mk (Kd.C_of_reads (h1 := fun _ => rfl) (hA11 _ (Kd.reads_of_C HR0.out)))
          have HC199 := Aside0.mk hC11
          clear hA11 hC11 hi011 hsz11
          go_wp2_with (first | ((with_reducible refine gate_callee (f := 14) rfl ?_); refine goesL_ (some 24) rfl rfl Try.func14 (by kernel_rfl) rfl #[.int .i64 (x4_1.length : Int), .slice A11 ((l0.take ((wrap64 (x5_1 + 255)) : Int).toNat).drop (x5_1 : Int).toNat).length (c0 - x5_1.toNat)] rfl (by (try simp only [List.map_toArray, List.map_cons, List.map_nil]); first | done | (rw [show ((l0.take ((wrap64 (x5_1 + 255)) : Int).toNat).drop (x5_1 : Int).toNat).length = ((wrap64 (x5_1 + 255)).toNat - x5_1.toNat) from (by rw [List.length_drop, List.length_take]; have h_ : ((wrap64 (x5_1 + 255)) : Int) ≤ (l0.length : Int) := of_decide_eq_true (by first | (with_reducible assumption) | assumption); omega)] <;> rfl) | rfl | (simp only [List.length_drop, List.length_take]; rfl)) ?_; (with_reducible refine (block_Unpack.calls (x4_1.length : Int) _ _ ((l0.take ((wrap64 (x5_1 + 255)) : Int).toNat).drop (x5_1 : Int).toNat) t200 t201 t202 _ ?side1 ?side2 A7.out).mono ?_); (case side1 => repeat (first | exact (Kd.C_below HR199.out HB.out) | (with_reducible refine Kd.C_alloc ?_ _) | (with_reducible refine Kd.C_drewN ?_ _) | (with_reducible refine Kd.C_drew ?_))); (case side2 => exact HC199.out); rintro e w12 ⟨rfl, hb⟩; refine ⟨_, rfl, ?_⟩; have n0_ := Aside0.mk (Kd.R_below (by (with_reducible repeat (first | apply Kd.R_alloc | apply Kd.R_drewN | apply Kd.R_drew)); exact HO_4.out) hb); have n1_ := Aside0.mk (below_step (by repeat (first | (with_reducible first | exact HB.out | apply below_alloc | apply pw_below_drewN | apply below_drew1) | exact HB.out)) hb); clear HO_4; clear HB; have HO_4 := n0_; have HB := n1_; clear n0_ n1_; (try clear hb); (try clear hb2); (try clear hk); (try clear hi)) | ((with_reducible refine gate_builtin (b := .append) (xs := #[.tmp 30, .tmp 32]) rfl ?_); at_builtin; refine Kd.R_append Kd.string (w0 := w) w.heap.size rfl (.tmp 30) (.tmp 32) 22 9 (.string ⟨#[]⟩) 16 rfl Try.underlying22 info9 rfl (by decide) (by omega) (.slice Ao10 x4_1.length co10) x4_1 t200 [.string t200] (fun _ => True) (fun _ => False) rfl rfl ?aP (fun _ hk => hk.elim) ?aF ?aO ?aB ?aS ?aL ?_; (case aP => exact rfl); (case aB => exact (by repeat (first | (with_reducible first | exact HB.out | apply below_alloc | apply pw_below_drewN | apply below_drew1) | exact HB.out))); (case aF => exact (fun _ _ => trivial)); (case aO => exact (by (with_reducible repeat (first | apply Kd.R_alloc | apply Kd.R_drewN | apply Kd.R_drew)); exact HO_4.out)); (case aS => exact (below_size (by repeat (first | (with_reducible first | exact HB.out | apply below_alloc | apply pw_below_drewN | apply below_drew1) | exact HB.out)))); (case aL => have := LMc9.out; omega); intro v204 w13 ho hb hg hat; rw [← Ny203.out] at ho; have n0_ := Aside0.mk (hb); have n1_ := Aside0.mk (ho); clear HB; clear HO_4; have HB := n0_; have HO205 := n1_; clear n0_ n1_; clear ho hb hg hat))
          go_roundg k1
          case measure => have := HK1.out; omega
          case rel => exact ⟨(y203), (wrap64 (x5_1 + t201)), (by first | rfl | (simp; done) | (simp [*]; done)), H', ⟨by have := HK1.out; omega⟩, ⟨by (with_reducible repeat (first | apply Kd.R_alloc | apply Kd.R_drewN | apply Kd.R_drew)); exact HO205.out⟩, ⟨by repeat (first | (with_reducible first | exact HB.out | apply below_alloc | apply pw_below_drewN | apply below_drew1) | exact HB.out)⟩⟩
         ·rw [if_neg c9] at H
          exact absurd H (by simp)
        ·rw [if_neg c8] at H
         have c8b0 : (t202 == 0) = false := beq_eq_false_iff_ne.mpr c8
         have c8b1 : (t202 != 0) = true := bne_iff_ne.mpr c8
         simp only [Option.some.injEq, Prod.mk.injEq] at H
         obtain ⟨rfl, rfl⟩ := H
         obtain ⟨Ao14, co14, eo14⟩ := Kd.R_slice HO_4.out
         subst eo14
         obtain ⟨i015, hi015, _, hsz15, _⟩ := info_parts info9
         obtain ⟨A15, hcut15, hA15, hC15⟩ := print_mid_of (P := Try.prog) Value.string (⟨#[]⟩ : ByteArray) 22 9 .i64 .i64 Try.underlying22 hi015 hsz15 A0 c0 l0 x5_1 (wrap64 (x5_1 + 255)) (of_decide_eq_true (by first | (with_reducible assumption) | assumption)) (by first | omega | exact of_decide_eq_true (by first | (with_reducible assumption) | assumption)) (of_decide_eq_true (by first | (with_reducible assumption) | assumption)) HC0.out
         have HR199 := Aside0.mk (Kd.C_of_reads (h1 := fun _ => rfl) (hA15 _ (Kd.reads_of_C HR0.out)))
         have HC199 := Aside0.mk hC15
         clear hA15 hC15 hi015 hsz15
         go_wp2_with (first | ((with_reducible refine gate_callee (f := 14) rfl ?_); refine goesL_ (some 24) rfl rfl Try.func14 (by kernel_rfl) rfl #[.int .i64 (x4_1.length : Int), .slice A15 ((l0.take ((wrap64 (x5_1 + 255)) : Int).toNat).drop (x5_1 : Int).toNat).length (c0 - x5_1.toNat)] rfl (by (try simp only [List.map_toArray, List.map_cons, List.map_nil]); first | done | (rw [show ((l0.take ((wrap64 (x5_1 + 255)) : Int).toNat).drop (x5_1 : Int).toNat).length = ((wrap64 (x5_1 + 255)).toNat - x5_1.toNat) from (by rw [List.length_drop, List.length_take]; have h_ : ((wrap64 (x5_1 + 255)) : Int) ≤ (l0.length : Int) := of_decide_eq_true (by first | (with_reducible assumption) | assumption); omega)] <;> rfl) | rfl | (simp only [List.length_drop, List.length_take]; rfl)) ?_; (with_reducible refine (block_Unpack.calls (x4_1.length : Int) _ _ ((l0.take ((wrap64 (x5_1 + 255)) : Int).toNat).drop (x5_1 : Int).toNat) t200 t201 t202 _ ?side1 ?side2 A7.out).mono ?_); (case side1 => repeat (first | exact (Kd.C_below HR199.out HB.out) | (with_reducible refine Kd.C_alloc ?_ _) | (with_reducible refine Kd.C_drewN ?_ _) | (with_reducible refine Kd.C_drew ?_))); (case side2 => exact HC199.out); rintro e w16 ⟨rfl, hb⟩; refine ⟨_, rfl, ?_⟩; have n0_ := Aside0.mk (Kd.R_below (by (with_reducible repeat (first | apply Kd.R_alloc | apply Kd.R_drewN | apply Kd.R_drew)); exact HO_4.out) hb); have n1_ := Aside0.mk (below_step (by repeat (first | (with_reducible first | exact HB.out | apply below_alloc | apply pw_below_drewN | apply below_drew1) | exact HB.out)) hb); clear HO_4; clear HB; have HO_4 := n0_; have HB := n1_; clear n0_ n1_; (try clear hb); (try clear hb2); (try clear hk); (try clear hi)))
         go_ret2
         exact ⟨_, by first | rfl | (simp [errW_none, errW_some] <;> rfl) | (simp [*, errW_none, errW_some] <;> rfl), by (with_reducible repeat (first | apply Kd.R_alloc | apply Kd.R_drewN | apply Kd.R_drew)); exact HO_4.out, by repeat (first | (with_reducible first | exact HB.out | apply below_alloc | apply pw_below_drewN | apply below_drew1) | exact HB.out)⟩
       ·rw [if_neg c6] at H
        exact absurd H (by simp)
      ·rw [if_neg c5] at H
       exact absurd H (by simp)
     ·rw [if_neg c4] at H
      exact absurd H (by simp)
    ·rw [if_neg c3] at H
     have c3i := eq_false c3
     have c3b0 : decide ((wrap64 (x5_1 + 255)) < (l0.length : Int)) = false := decide_eq_false c3
     clear c3
     by_cases c17 : 0 ≤ x5_1
     ·rw [if_pos c17] at H
      have c17b0 := eq_true c17
      have c17b1 : decide (0 ≤ x5_1) = true := decide_eq_true c17
      clear c17
      by_cases c18 : x5_1 ≤ (l0.length : Int)
      ·rw [if_pos c18] at H
       have c18b0 := eq_true c18
       have c18b1 : decide (x5_1 ≤ (l0.length : Int)) = true := decide_eq_true c18
       clear c18
       by_cases c19 : (l0.length : Int) ≤ (l0.length : Int)
       ·rw [if_pos c19] at H
        have c19b0 := eq_true c19
        have c19b1 : decide ((l0.length : Int) ≤ (l0.length : Int)) = true := decide_eq_true c19
        clear c19
        replace H := Option.bind_eq_some_iff.mp H
        obtain ⟨⟨t207, t208, t209⟩, A200, H⟩ := H
        replace H : (if t209 = 0 then (if x4_1.length < 8796093022208 then (journal_Records.l0 k1 l0 (x4_1 ++ [t207]) (wrap64 (x5_1 + t208))) else (none)) else (some (x4_1, x5_1))) = some (r1, r2) := H
        have A20 := Aside0.mk A200
        clear A200
        by_cases c21 : t209 = 0
        ·rw [if_pos c21] at H
         have c21b0 : (t209 == 0) = true := beq_iff_eq.mpr c21
         have c21b1 : (t209 != 0) = false := bne_eq_false_iff_eq.mpr c21
         clear c21
         by_cases c22 : x4_1.length < 8796093022208
         ·rw [if_pos c22] at H
          have LMc22 := Aside0.mk c22
          clear c22
          obtain ⟨y210, hy210⟩ : ∃ y_ : List ByteArray, y_ = (x4_1 ++ [t207]) := ⟨_, rfl⟩
          replace H : (journal_Records.l0 k1 l0 y210 (wrap64 (x5_1 + t208))) = some (r1, r2) := by first | (rw [hy210]; with_reducible exact H) | (have H2_ := (Option.bind_some _ _).symm.trans H; rw [hy210]; with_reducible exact H2_) | (have H2_ := (Option.bind_some _ _).symm.trans H; with_reducible exact H2_) | with_reducible exact H | (rw [hy210]; exact H) | exact H
          have Ny210 := Aside0.mk hy210
          clear hy210
          have H' := Aside0.mk H
          clear H
          obtain ⟨Ao23, co23, eo23⟩ := Kd.R_slice HO_4.out
          subst eo23
          obtain ⟨i024, hi024, _, hsz24, _⟩ := info_parts info9
          obtain ⟨A24, hcut24, hA24, hC24⟩ := print_mid_of (P := Try.prog) Value.string (⟨#[]⟩ : ByteArray) 22 9 .i64 .i64 Try.underlying22 hi024 hsz24 A0 c0 l0 x5_1 (l0.length : Int) (of_decide_eq_true (by first | (with_reducible assumption) | assumption)) (by first | omega | exact of_decide_eq_true (by first | (with_reducible assumption) | assumption)) (of_decide_eq_true (by first | (with_reducible assumption) | assumption)) HC0.out
          have HR206 := Aside0.mk (Kd.C_of_reads (h1 := fun _ => rfl) (hA24 _ (Kd.reads_of_C HR0.out)))
          have HC206 := Aside0.mk hC24
          clear hA24 hC24 hi024 hsz24
          go_wp2_with (first | ((with_reducible refine gate_callee (f := 14) rfl ?_); refine goesL_ (some 24) rfl rfl Try.func14 (by kernel_rfl) rfl #[.int .i64 (x4_1.length : Int), .slice A24 ((l0.take ((l0.length : Int) : Int).toNat).drop (x5_1 : Int).toNat).length (c0 - x5_1.toNat)] rfl (by (try simp only [List.map_toArray, List.map_cons, List.map_nil]); first | done | (rw [show ((l0.take ((l0.length : Int) : Int).toNat).drop (x5_1 : Int).toNat).length = ((l0.length : Int).toNat - x5_1.toNat) from (by rw [List.length_drop, List.length_take]; have h_ : ((l0.length : Int) : Int) ≤ (l0.length : Int) := of_decide_eq_true (by first | (with_reducible assumption) | assumption); omega)] <;> rfl) | rfl | (simp only [List.length_drop, List.length_take]; rfl)) ?_; (with_reducible refine (block_Unpack.calls (x4_1.length : Int) _ _ ((l0.take ((l0.length : Int) : Int).toNat).drop (x5_1 : Int).toNat) t207 t208 t209 _ ?side1 ?side2 A20.out).mono ?_); (case side1 => repeat (first | exact (Kd.C_below HR206.out HB.out) | (with_reducible refine Kd.C_alloc ?_ _) | (with_reducible refine Kd.C_drewN ?_ _) | (with_reducible refine Kd.C_drew ?_))); (case side2 => exact HC206.out); rintro e w25 ⟨rfl, hb⟩; refine ⟨_, rfl, ?_⟩; have n0_ := Aside0.mk (Kd.R_below (by (with_reducible repeat (first | apply Kd.R_alloc | apply Kd.R_drewN | apply Kd.R_drew)); exact HO_4.out) hb); have n1_ := Aside0.mk (below_step (by repeat (first | (with_reducible first | exact HB.out | apply below_alloc | apply pw_below_drewN | apply below_drew1) | exact HB.out)) hb); clear HO_4; clear HB; have HO_4 := n0_; have HB := n1_; clear n0_ n1_; (try clear hb); (try clear hb2); (try clear hk); (try clear hi)) | ((with_reducible refine gate_builtin (b := .append) (xs := #[.tmp 30, .tmp 32]) rfl ?_); at_builtin; refine Kd.R_append Kd.string (w0 := w) w.heap.size rfl (.tmp 30) (.tmp 32) 22 9 (.string ⟨#[]⟩) 16 rfl Try.underlying22 info9 rfl (by decide) (by omega) (.slice Ao23 x4_1.length co23) x4_1 t207 [.string t207] (fun _ => True) (fun _ => False) rfl rfl ?aP (fun _ hk => hk.elim) ?aF ?aO ?aB ?aS ?aL ?_; (case aP => exact rfl); (case aB => exact (by repeat (first | (with_reducible first | exact HB.out | apply below_alloc | apply pw_below_drewN | apply below_drew1) | exact HB.out))); (case aF => exact (fun _ _ => trivial)); (case aO => exact (by (with_reducible repeat (first | apply Kd.R_alloc | apply Kd.R_drewN | apply Kd.R_drew)); exact HO_4.out)); (case aS => exact (below_size (by repeat (first | (with_reducible first | exact HB.out | apply below_alloc | apply pw_below_drewN | apply below_drew1) | exact HB.out)))); (case aL => have := LMc22.out; omega); intro v211 w26 ho hb hg hat; rw [← Ny210.out] at ho; have n0_ := Aside0.mk (hb); have n1_ := Aside0.mk (ho); clear HB; clear HO_4; have HB := n0_; have HO212 := n1_; clear n0_ n1_; clear ho hb hg hat))
          go_roundg k1
          case measure => have := HK1.out; omega
          case rel => exact ⟨(y210), (wrap64 (x5_1 + t208)), (by first | rfl | (simp; done) | (simp [*]; done)), H', ⟨by have := HK1.out; omega⟩, ⟨by (with_reducible repeat (first | apply Kd.R_alloc | apply Kd.R_drewN | apply Kd.R_drew)); exact HO212.out⟩, ⟨by repeat (first | (with_reducible first | exact HB.out | apply below_alloc | apply pw_below_drewN | apply below_drew1) | exact HB.out)⟩⟩
         ·rw [if_neg c22] at H
          exact absurd H (by simp)
        ·rw [if_neg c21] at H
         have c21b0 : (t209 == 0) = false := beq_eq_false_iff_ne.mpr c21
         have c21b1 : (t209 != 0) = true := bne_iff_ne.mpr c21
         simp only [Option.some.injEq, Prod.mk.injEq] at H
         obtain ⟨rfl, rfl⟩ := H
         obtain ⟨Ao27, co27, eo27⟩ := Kd.R_slice HO_4.out
         subst eo27
         obtain ⟨i028, hi028, _, hsz28, _⟩ := info_parts info9
         obtain ⟨A28, hcut28, hA28, hC28⟩ := print_mid_of (P := Try.prog) Value.string (⟨#[]⟩ : ByteArray) 22 9 .i64 .i64 Try.underlying22 hi028 hsz28 A0 c0 l0 x5_1 (l0.length : Int) (of_decide_eq_true (by first | (with_reducible assumption) | assumption)) (by first | omega | exact of_decide_eq_true (by first | (with_reducible assumption) | assumption)) (of_decide_eq_true (by first | (with_reducible assumption) | assumption)) HC0.out
         have HR206 := Aside0.mk (Kd.C_of_reads (h1 := fun _ => rfl) (hA28 _ (Kd.reads_of_C HR0.out)))
         have HC206 := Aside0.mk hC28
         clear hA28 hC28 hi028 hsz28
         go_wp2_with (first | ((with_reducible refine gate_callee (f := 14) rfl ?_); refine goesL_ (some 24) rfl rfl Try.func14 (by kernel_rfl) rfl #[.int .i64 (x4_1.length : Int), .slice A28 ((l0.take ((l0.length : Int) : Int).toNat).drop (x5_1 : Int).toNat).length (c0 - x5_1.toNat)] rfl (by (try simp only [List.map_toArray, List.map_cons, List.map_nil]); first | done | (rw [show ((l0.take ((l0.length : Int) : Int).toNat).drop (x5_1 : Int).toNat).length = ((l0.length : Int).toNat - x5_1.toNat) from (by rw [List.length_drop, List.length_take]; have h_ : ((l0.length : Int) : Int) ≤ (l0.length : Int) := of_decide_eq_true (by first | (with_reducible assumption) | assumption); omega)] <;> rfl) | rfl | (simp only [List.length_drop, List.length_take]; rfl)) ?_; (with_reducible refine (block_Unpack.calls (x4_1.length : Int) _ _ ((l0.take ((l0.length : Int) : Int).toNat).drop (x5_1 : Int).toNat) t207 t208 t209 _ ?side1 ?side2 A20.out).mono ?_); (case side1 => repeat (first | exact (Kd.C_below HR206.out HB.out) | (with_reducible refine Kd.C_alloc ?_ _) | (with_reducible refine Kd.C_drewN ?_ _) | (with_reducible refine Kd.C_drew ?_))); (case side2 => exact HC206.out); rintro e w29 ⟨rfl, hb⟩; refine ⟨_, rfl, ?_⟩; have n0_ := Aside0.mk (Kd.R_below (by (with_reducible repeat (first | apply Kd.R_alloc | apply Kd.R_drewN | apply Kd.R_drew)); exact HO_4.out) hb); have n1_ := Aside0.mk (below_step (by repeat (first | (with_reducible first | exact HB.out | apply below_alloc | apply pw_below_drewN | apply below_drew1) | exact HB.out)) hb); clear HO_4; clear HB; have HO_4 := n0_; have HB := n1_; clear n0_ n1_; (try clear hb); (try clear hb2); (try clear hk); (try clear hi)))
         go_ret2
         exact ⟨_, by first | rfl | (simp [errW_none, errW_some] <;> rfl) | (simp [*, errW_none, errW_some] <;> rfl), by (with_reducible repeat (first | apply Kd.R_alloc | apply Kd.R_drewN | apply Kd.R_drew)); exact HO_4.out, by repeat (first | (with_reducible first | exact HB.out | apply below_alloc | apply pw_below_drewN | apply below_drew1) | exact HB.out)⟩
       ·rw [if_neg c19] at H
        exact absurd H (by simp)
      ·rw [if_neg c18] at H
       exact absurd H (by simp)
     ·rw [if_neg c17] at H
      exact absurd H (by simp)
   ·rw [if_neg c2] at H
    have c2b0 : decide (x5_1 < (l0.length : Int)) = false := decide_eq_false c2
    clear c2
    simp only [Option.some.injEq, Prod.mk.injEq] at H
    obtain ⟨rfl, rfl⟩ := H
    go_wp2
    go_ret2
    exact ⟨_, by first | rfl | (simp [errW_none, errW_some] <;> rfl) | (simp [*, errW_none, errW_some] <;> rfl), by (with_reducible repeat (first | apply Kd.R_alloc | apply Kd.R_drewN | apply Kd.R_drew)); exact HO_4.out, by repeat (first | (with_reducible first | exact HB.out | apply below_alloc | apply pw_below_drewN | apply below_drew1) | exact HB.out)⟩
end Go.Proofs.Ytckfkbmefdmedaa.Q
namespace Go.Proofs.Ytckfkbmefdmedaa
open Go.RowKit Go.Proofs.YtckfkbmefdmedaaW.PrintWords Go.Proofs.YtckfkbmefdmedaaW.PrintLast
set_option linter.unusedVariables false
set_option linter.unusedSimpArgs false
open Go.Proofs.Kq (Reads wpList_append_any)
theorem info9s : (Try.prog.info? 9).map (fun i => (i.zero, i.size, i.bytes)) = some (some (.string ⟨#[]⟩), 1, 16) := by kernel_rfl
end Go.Proofs.Ytckfkbmefdmedaa
namespace Go.Proofs.Ytckfkbmefdmedaa
open Go.RowKit Go.Proofs.Kq Go.Proofs.YtckfkbmefdmedaaW.PrintLast
open Go.Proofs.YtckfkbmefdmedaaW.PrintWords (pw_cell_below Kd Kd.C Kd.C_below Kd.R Kd.R_of_own Kd.R_reads encs encs_length)
set_option linter.unusedVariables false
set_option linter.unusedSimpArgs false
def OwnS (w : World) (base : Nat) (v : Value) (xs : List ByteArray) : Prop := w.ownsRow base 9 1 v xs.length (encs Value.string xs)
theorem own_base {w : World} {base : Nat} {v : Value} {xs : List ByteArray} (h : OwnS w base v xs) {k : Nat} (hk : v.ownBlock = some k) : base ≤ k := by
  rcases h.2 with ⟨rfl, _⟩ | ⟨g, cap, cur, rfl, hg, _⟩
  · cases hk
  · cases hk; exact hg
end Go.Proofs.Ytckfkbmefdmedaa
namespace Go.Proofs.Ytckfkbmefdmedaa
open Go.RowKit Go.Proofs.Kq
open Go.Proofs.YtckfkbmefdmedaaW.PrintWords (pw_cell_below Kd Kd.C Kd.C_below)
set_option linter.unusedVariables false
set_option linter.unusedSimpArgs false
structure Wr where
  at_ : Int
  data : ByteArray
def Wr.l (p : Wr) : List Value := [.int .i64 p.at_, .string p.data]
def sl (s : ByteArray) : List Value := [.string s]
theorem sl_len (s : ByteArray) : (sl s).length = 1 := rfl
theorem sl_one (s : ByteArray) : ∀ u ∈ sl s, u.oneCell' = true := by intro u hu; rcases List.mem_singleton.1 hu with rfl; rfl
theorem wr_len (p : Wr) : p.l.length = 2 := rfl
abbrev Strs (w : World) (base : Nat) (v : Value) (bs : List ByteArray) : Prop := Go.Proofs.Kq.Own sl 1 9 w base v bs
abbrev Wrs (w : World) (base : Nat) (v : Value) (ps : List Wr) : Prop := Go.Proofs.Kq.Own Wr.l 2 135 w base v ps
structure Dt (w : World) (base d : Nat) (v1 v2 : Value) (bs : List ByteArray) (ps : List Wr) (fuse : Int) (dead : Bool) : Prop where
  blk : Blk w d #[v1, v2, .int .i64 fuse, .bool dead] 132
  own : Strs w base v1 bs
  pend : Wrs w base v2 ps
theorem Dt.below {w w1 : World} {base d : Nat} {v1 v2 : Value} {bs : List ByteArray} {ps : List Wr} {fuse : Int} {dead : Bool} (h : Dt w base d v1 v2 bs ps fuse dead) (hb : Below w.heap.size w w1) : Dt w1 base d v1 v2 bs ps fuse dead :=
  ⟨h.blk.be hb, h.own.below hb, h.pend.below hb⟩
def DS (d : Nat) (v1 v2 : Value) : Nat → Prop := fun k => k = d ∨ v1.ownBlock = some k ∨ v2.ownBlock = some k
theorem Dt.fr {S : Nat → Prop} {w w1 : World} {base d : Nat} {v1 v2 : Value} {bs : List ByteArray} {ps : List Wr} {fuse : Int} {dead : Bool} (h : Dt w base d v1 v2 bs ps fuse dead) (hf : Fr S w w1) (hS : ∀ k, DS d v1 v2 k → ¬ S k) : Dt w1 base d v1 v2 bs ps fuse dead :=
  ⟨hf.blk h.blk (hS d (.inl rfl)), h.own.fr hf (fun k hk => hS k (.inr (.inl hk))), h.pend.fr hf (fun k hk => hS k (.inr (.inr hk)))⟩
def usF (n : Nat) (dead : Bool) (at_ : Int) : Int := if dead = true then 7 else if at_ < 0 ∨ (n : Int) ≤ at_ then 8 else 0
def UsP (n : Nat) (dead : Bool) (at_ : Int) (w : World) (e : Ending) (w' : World) : Prop := e = .returned (.int .i64 (usF n dead at_)) ∧ w' = w
set_option maxHeartbeats 1000000 in
theorem usable_any (base d : Nat) (v1 v2 : Value) (bs : List ByteArray) (ps : List Wr) (fuse : Int) (dead : Bool) (at_ : Int) (w : World) (h : Dt w base d v1 v2 bs ps fuse dead) :
    Calls Try.prog 78 #[.pointer (some ⟨d, 0, none⟩), .int .i64 at_] w (UsP bs.length dead at_ w) := by
  obtain ⟨A, c, rfl, _⟩ := h.own.slice_
  have c0 := h.blk.c; have l0 := h.blk.lt; have f0 := h.blk.f
  cases dead
  · have hfin : Hid (UsP bs.length false at_ w (.returned (.int .i64 (if at_ < 0 ∨ (bs.length : Int) ≤ at_ then 8 else 0))) w) := hidI ⟨rfl, rfl⟩
    clear h
    by_cases h1 : at_ < 0
    · rw [if_pos (.inl h1)] at hfin
      have g1 : decide (at_ < 0) = true := decide_eq_true h1
      go_enter Try.func78, Try.ntmps78
      go_wp2
      go_ret
      exact hfin.out
    · have g1 : decide (at_ < 0) = false := decide_eq_false h1
      by_cases h2 : (bs.length : Int) ≤ at_
      · rw [if_pos (.inr h2)] at hfin
        have g2 : decide ((bs.length : Int) ≤ at_) = true := decide_eq_true h2
        go_enter Try.func78, Try.ntmps78
        go_wp2
        go_ret
        exact hfin.out
      · rw [if_neg (by omega)] at hfin
        have g2 : decide ((bs.length : Int) ≤ at_) = false := decide_eq_false h2
        go_enter Try.func78, Try.ntmps78
        go_wp2
        go_ret
        exact hfin.out
  · have hfin : Hid (UsP bs.length true at_ w (.returned (.int .i64 7)) w) := hidI ⟨rfl, rfl⟩
    clear h
    go_enter Try.func78, Try.ntmps78
    go_wp2
    go_ret
    exact hfin.out
def thF (fuse : Int) (dead : Bool) : Bool := !(decide (fuse = 0) || dead)
def thN (fuse : Int) : Int := if 0 < fuse then fuse - 1 else fuse
def ThP (base d : Nat) (v1 v2 : Value) (bs : List ByteArray) (ps : List Wr) (fuse : Int) (dead : Bool) (w : World) (e : Ending) (w' : World) : Prop :=
  e = .returned (.bool (thF fuse dead)) ∧ Dt w' base d v1 v2 bs ps (thN fuse) (decide (fuse = 0) || dead) ∧ Fr (fun k => k = d) w w'
theorem Dt.st {w : World} {base d : Nat} {v1 v2 : Value} {bs : List ByteArray} {ps : List Wr} {fuse : Int} {dead : Bool} (h : Dt w base d v1 v2 bs ps fuse dead) :
    (∀ f2 : Int, Dt (w.setCell ⟨d, 2, none⟩ (.int .i64 f2)) base d v1 v2 bs ps f2 dead) ∧ (∀ b2 : Bool, Dt (w.setCell ⟨d, 3, none⟩ (.bool b2)) base d v1 v2 bs ps fuse b2) := by
  have n1 : v1.ownBlock ≠ some d := h.own.ne h.blk (by decide)
  have n2 : v2.ownBlock ≠ some d := h.pend.ne h.blk (by decide)
  exact ⟨fun f2 => ⟨h.blk.st 2 _, h.own.far (p := ⟨d, 2, none⟩) n1 _, h.pend.far (p := ⟨d, 2, none⟩) n2 _⟩, fun b2 => ⟨h.blk.st 3 _, h.own.far (p := ⟨d, 3, none⟩) n1 _, h.pend.far (p := ⟨d, 3, none⟩) n2 _⟩⟩
set_option maxHeartbeats 1000000 in
theorem thing_any (base d : Nat) (v1 v2 : Value) (bs : List ByteArray) (ps : List Wr) (fuse : Int) (dead : Bool) (w : World) (h : Dt w base d v1 v2 bs ps fuse dead) (hf : -9223372036854775808 ≤ fuse ∧ fuse ≤ 9223372036854775807) :
    Calls Try.prog 79 #[.pointer (some ⟨d, 0, none⟩)] w (ThP base d v1 v2 bs ps fuse dead w) := by
  have c0 := h.blk.c; have l0 := h.blk.lt; have f0 := h.blk.f
  by_cases h0 : fuse = 0
  · have hfin : Hid (ThP base d v1 v2 bs ps fuse dead w (.returned (.bool false)) (w.setCell ⟨d, 3, none⟩ (.bool true))) := hidI (by
      subst h0
      exact ⟨rfl, h.st.2 true, (Fr.refl (fun k => k = d) w).setCell (fun _ => rfl) _⟩)
    subst h0
    clear h
    go_enter Try.func79, Try.ntmps79
    go_wp2
    go_ret
    exact hfin.out
  · have g0 : (fuse == 0) = false := beq_eq_false_iff_ne.mpr h0
    by_cases h1 : 0 < fuse
    · have g1 : decide (0 < fuse) = true := decide_eq_true h1
      have hfin : Hid (ThP base d v1 v2 bs ps fuse dead w (.returned (.bool (!dead))) (w.setCell ⟨d, 2, none⟩ (.int .i64 (fuse - 1)))) := hidI (by
        refine ⟨by unfold thF; rw [decide_eq_false h0, Bool.false_or], ?_, (Fr.refl (fun k => k = d) w).setCell (fun _ => rfl) _⟩
        rw [decide_eq_false h0, Bool.false_or]
        unfold thN
        rw [if_pos h1]
        exact h.st.1 (fuse - 1))
      clear h
      go_enter Try.func79, Try.ntmps79
      go_wp2
      go_ret
      exact hfin.out
    · have g1 : decide (0 < fuse) = false := decide_eq_false h1
      have hfin : Hid (ThP base d v1 v2 bs ps fuse dead w (.returned (.bool (!dead))) w) := hidI (by
        refine ⟨by unfold thF; rw [decide_eq_false h0, Bool.false_or], ?_, Fr.refl _ _⟩
        rw [decide_eq_false h0, Bool.false_or]
        unfold thN
        rw [if_neg h1]
        exact h)
      clear h
      go_enter Try.func79, Try.ntmps79
      go_wp2
      go_ret
      exact hfin.out
end Go.Proofs.Ytckfkbmefdmedaa
namespace Go.Proofs.Ytckfkbmefdmedaa
open Go.RowKit Go.Proofs.Kq
open Go.Proofs.YtckfkbmefdmedaaW.PrintWords (pw_cell_below Kd Kd.C Kd.C_below)
set_option linter.unusedVariables false
set_option linter.unusedSimpArgs false
structure DkS where
  bs : List ByteArray
  ps : List Wr
  fuse : Int
  dead : Bool
abbrev DT (w : World) (base d : Nat) (v1 v2 : Value) (s : DkS) : Prop := Dt w base d v1 v2 s.bs s.ps s.fuse s.dead
def MuP (base d : Nat) (v1 v2 : Value) (r : Ending) (s : DkS) (w : World) (e : Ending) (w' : World) : Prop :=
  e = r ∧ ∃ v2', DT w' base d v1 v2' s ∧ Fr (DS d v1 v2) w w' ∧ ∀ k, DS d v1 v2' k → DS d v1 v2 k ∨ w.heap.size ≤ k
def wrS (s : DkS) (at_ : Int) (data : ByteArray) : Int × DkS :=
  if usF s.bs.length s.dead at_ = 0 then
    (if data.size = 64 then (if thF s.fuse s.dead = true then 0 else 7, ⟨s.bs, s.ps ++ [⟨at_, data⟩], thN s.fuse, decide (s.fuse = 0) || s.dead⟩) else (1, s))
  else (usF s.bs.length s.dead at_, s)
theorem info135 : (Try.prog.info? 135).map (fun i => (i.zero, i.size, i.bytes)) = some (some (.agg #[.int .i64 0, .string ⟨#[]⟩]), 2, 24) := by kernel_rfl
theorem MuP.same {base d : Nat} {v1 v2 : Value} {r : Ending} {s : DkS} {w : World} (h : DT w base d v1 v2 s) : MuP base d v1 v2 r s w r w := ⟨rfl, v2, h, Fr.refl _ _, fun k hk => .inl hk⟩
set_option maxHeartbeats 2000000 in
set_option maxRecDepth 100000 in
theorem write_any (base d : Nat) (v1 v2 : Value) (s : DkS) (at_ : Int) (data : ByteArray) (w : World) (h : DT w base d v1 v2 s) (hb : base ≤ w.heap.size) (hf : -9223372036854775808 ≤ s.fuse ∧ s.fuse ≤ 9223372036854775807) (hl : s.ps.length ≤ 5000000000000) :
    Calls Try.prog 26 #[.pointer (some ⟨d, 0, none⟩), .int .i64 at_, .string data] w (MuP base d v1 v2 (.returned (.int .i64 (wrS s at_ data).1)) (wrS s at_ data).2 w) := by
  obtain ⟨bs, ps, fuse, dead⟩ := s
  have hU := usable_any base d v1 v2 bs ps fuse dead at_ w h
  obtain ⟨R, hR⟩ : ∃ R, R = wrS ⟨bs, ps, fuse, dead⟩ at_ data := ⟨_, rfl⟩
  rw [← hR]
  have HR := hidI hR
  clear hR
  unfold UsP at hU
  by_cases hu : usF bs.length dead at_ = 0
  · by_cases h64 : data.size = 64
    · have hws : Hid (R = (if thF fuse dead = true then 0 else 7, ⟨bs, ps ++ [⟨at_, data⟩], thN fuse, decide (fuse = 0) || dead⟩)) := hidI (by
        rw [HR.out]; unfold wrS; rw [if_pos hu, if_pos h64])
      obtain ⟨A2, c2, rfl, _⟩ := h.pend.slice_
      have c0 := h.blk.c; have l0 := h.blk.lt; have f0 := h.blk.f
      have HD := hidI h
      have g1 : ((data.size : Int) == 64) = true := by rw [h64]; rfl
      rw [hu] at hU
      clear hu h64 h
      go_enter Try.func26, Try.ntmps26
      go_wp2_with fail
      with_reducible refine hU.mono ?_
      rintro e w1 ⟨rfl, hw1⟩
      subst hw1
      clear hU
      simp only []
      obtain ⟨i0, hi0, hz0, hz1, hz2⟩ := info_parts info135
      have NE : some d ≠ (Value.slice A2 ps.length c2).ownBlock := Ne.symm (HD.out.pend.ne HD.out.blk (by decide))
      have hO := HD.out.pend.below (below_new (Below.refl w1.heap.size w1) (.cells #[.int .i64 at_, .string data] 135))
      have hRd : Reads (w1.alloc (.cells #[.int .i64 at_, .string data] 135)) (w1.heap.size + 1) 2 (some ⟨w1.heap.size, 0, none⟩) 1 [.int .i64 at_, .string data] := ⟨rfl, fun _ => ⟨_, rfl, Nat.lt_succ_self _, fun j q hj => by
        have h2 := Blk.c (Blk.new' (w := w1) (b := w1.heap.size) (cs := #[.int .i64 at_, .string data]) (T := 135) rfl)
        rw [Kp.add_plain', Nat.zero_add, h2]
        simpa using hj⟩⟩
      go_wp2_with (at_builtin; refine wpList_append_any _ rfl (.tmp 21) (.tmp 25) 130 rfl base 135 i0 (.agg #[.int .i64 0, .string ⟨#[]⟩]) 2 24 Try.underlying130 hi0 hz0 hz1 hz2 rfl (by decide) (.slice A2 ps.length c2) ps.length (ps.flatMap Wr.l) rfl hO (w1.heap.size + 1) (some ⟨w1.heap.size, 0, none⟩) 1 1 [.int .i64 at_, .string data] rfl hRd ?a1 ?aM ?aB ?aS ?_; (case a1 => intro q hq; simp only [List.mem_cons, List.not_mem_nil, or_false] at hq; rcases hq with rfl | rfl <;> rfl); (case aM => simp only [maxLen]; omega); (case aB => omega); (case aS => simp; omega); intro v5 w5 hown hg hat; have hO5 := Go.Proofs.Kq.Own.snoc (p := (⟨at_, data⟩ : Wr)) hown; obtain ⟨A5, c5, rfl, _⟩ := hO5.slice_; have hB5 := Blk.gb (HD.out.blk.al (.cells #[.int .i64 at_, .string data] 135)) hg NE; have c5' := hB5.c; have l5' := hB5.lt; have f5' := hB5.f; clear hown hO)
      have e1 : (ps ++ [(⟨at_, data⟩ : Wr)]).length = ps.length + 1 := by simp
      rw [e1] at hO5
      have hD6 : Dt (w5.setCell ⟨d, 1, none⟩ (.slice A5 (ps.length + 1) c5)) base d v1 (.slice A5 (ps.length + 1) c5) bs (ps ++ [⟨at_, data⟩]) fuse dead := by
        refine ⟨hB5.st 1 _, ?_, hO5.far (p := ⟨d, 1, none⟩) (hO5.ne hB5 (by decide)) _⟩
        refine Go.Proofs.Kq.Own.far (p := ⟨d, 1, none⟩) (v := v1) ?_ (HD.out.own.ne HD.out.blk (by decide)) _
        refine Go.Proofs.Kq.Own.kept (w := w1) HD.out.own (fun k hk => ?_)
        have hlt := HD.out.own.lt hk
        have h2 : (w1.alloc (.cells #[.int .i64 at_, .string data] 135)).heap[k]? = w1.heap[k]? := Below.heap_alloc w1 _ k hlt
        rw [← h2]
        exact hg.block k (by simp; omega) (fun e => HD.out.own.ne_own HD.out.pend (by decide) k hk e.symm)
      have hF6 : Fr (DS d v1 (.slice A2 ps.length c2)) w1 (w5.setCell ⟨d, 1, none⟩ (.slice A5 (ps.length + 1) c5)) :=
        (((Fr.refl _ w1).alloc _).grown hg (fun b e _ => .inr (.inr e))).setCell (fun _ => .inl rfl) _
      have hP6 : ∀ k, DS d v1 (.slice A5 (ps.length + 1) c5) k → DS d v1 (.slice A2 ps.length c2) k ∨ w1.heap.size ≤ k := by
        rintro k (h | h | h)
        · exact .inl (.inl h)
        · exact .inl (.inr (.inl h))
        · rcases hat with h2 | h2
          · exact .inl (.inr (.inr (by rw [← h2, e1]; exact h)))
          · right
            rw [e1] at h2
            rw [h2] at h
            have : k = w1.heap.size + 1 := by simpa using h.symm
            omega
      have HD6 := hidI hD6
      have HF6 := hidI hF6
      have HP6 := hidI hP6
      have hT := thing_any base d v1 _ bs _ fuse dead _ hD6 hf
      clear hD6 hF6 hP6 hO5 hB5 hat hg NE hRd c0 l0 f0 c5' l5' f5'
      generalize w5.setCell ⟨d, 1, none⟩ (.slice A5 (ps.length + 1) c5) = w6 at *
      with_reducible refine hT.mono ?_
      rintro e w7 ⟨rfl, hD7, hF7⟩
      have hfin0 : MuP base d v1 (.slice A2 ps.length c2) (.returned (.int .i64 R.1)) R.2 w1 (.returned (.int .i64 R.1)) w7 := by
        refine ⟨rfl, .slice A5 (ps.length + 1) c5, ?_, HF6.out.trans hF7 (fun b _ e => .inl e), HP6.out⟩
        rw [hws.out]; exact hD7
      clear hT hD7 hF7
      simp only []
      cases hth : thF fuse dead
      · rw [hws.out, hth] at hfin0
        have hfin : Hid (MuP base d v1 (.slice A2 ps.length c2) (.returned (.int .i64 R.1)) R.2 w1 (.returned (.int .i64 7)) w7) := hidI (by rw [hws.out, hth]; exact hfin0)
        clear hfin0 hth
        go_wp2_with fail
        go_ret
        exact hfin.out
      · rw [hws.out, hth] at hfin0
        have hfin : Hid (MuP base d v1 (.slice A2 ps.length c2) (.returned (.int .i64 R.1)) R.2 w1 (.returned (.int .i64 0)) w7) := hidI (by rw [hws.out, hth]; exact hfin0)
        clear hfin0 hth
        go_wp2_with fail
        go_ret
        exact hfin.out
    · have hws : Hid (R = (1, ⟨bs, ps, fuse, dead⟩)) := hidI (by
        rw [HR.out]; unfold wrS; rw [if_pos hu, if_neg h64])
      have g1 : ((data.size : Int) == 64) = false := beq_eq_false_iff_ne.mpr (by omega)
      rw [hu] at hU
      have hfin : Hid (MuP base d v1 v2 (.returned (.int .i64 R.1)) R.2 w (.returned (.int .i64 1)) w) := hidI (by rw [hws.out]; exact MuP.same h)
      clear hu h64 h
      go_enter Try.func26, Try.ntmps26
      go_wp2_with fail
      with_reducible refine hU.mono ?_
      rintro e w1 ⟨rfl, hw1⟩
      subst hw1
      clear hU
      simp only []
      go_wp2_with fail
      go_ret
      exact hfin.out
  · have hws : Hid (R = (usF bs.length dead at_, ⟨bs, ps, fuse, dead⟩)) := hidI (by
      rw [HR.out]; unfold wrS; rw [if_neg hu])
    have hfin : Hid (MuP base d v1 v2 (.returned (.int .i64 R.1)) R.2 w (.returned (.int .i64 (usF bs.length dead at_))) w) := hidI (by rw [hws.out]; exact MuP.same h)
    have g1 : (usF bs.length dead at_ == 0) = false := beq_eq_false_iff_ne.mpr hu
    generalize usF bs.length dead at_ = u at *
    clear hu h
    go_enter Try.func26, Try.ntmps26
    go_wp2_with fail
    with_reducible refine hU.mono ?_
    rintro e w1 ⟨rfl, hw1⟩
    subst hw1
    clear hU
    simp only []
    go_wp2_with fail
    go_ret
    exact hfin.out
end Go.Proofs.Ytckfkbmefdmedaa
namespace Go.Proofs.Ytckfkbmefdmedaa
open Go.RowKit Go.Proofs.Kq
open Go.Proofs.YtckfkbmefdmedaaW.PrintWords (pw_cell_below Kd Kd.C Kd.C_below)
set_option linter.unusedVariables false
set_option linter.unusedSimpArgs false
abbrev Wre (w : World) (base : Nat) (v : Value) (ps : List Wr) : Prop := Go.Proofs.Kq.Own Wr.l 2 140 w base v ps
structure Et (w : World) (base d : Nat) (v1 v2 : Value) (bs : List ByteArray) (ps : List Wr) (fuse : Int) (dead : Bool) : Prop where
  blk : Blk w d #[v1, v2, .int .i64 fuse, .bool dead] 65
  own : Strs w base v1 bs
  pend : Wre w base v2 ps
theorem Et.below {w w1 : World} {base d : Nat} {v1 v2 : Value} {bs : List ByteArray} {ps : List Wr} {fuse : Int} {dead : Bool} (h : Et w base d v1 v2 bs ps fuse dead) (hb : Below w.heap.size w w1) : Et w1 base d v1 v2 bs ps fuse dead :=
  ⟨h.blk.be hb, h.own.below hb, h.pend.below hb⟩
def ES (d : Nat) (v1 v2 : Value) : Nat → Prop := fun k => k = d ∨ v1.ownBlock = some k ∨ v2.ownBlock = some k
theorem Et.fr {S : Nat → Prop} {w w1 : World} {base d : Nat} {v1 v2 : Value} {bs : List ByteArray} {ps : List Wr} {fuse : Int} {dead : Bool} (h : Et w base d v1 v2 bs ps fuse dead) (hf : Fr S w w1) (hS : ∀ k, ES d v1 v2 k → ¬ S k) : Et w1 base d v1 v2 bs ps fuse dead :=
  ⟨hf.blk h.blk (hS d (.inl rfl)), h.own.fr hf (fun k hk => hS k (.inr (.inl hk))), h.pend.fr hf (fun k hk => hS k (.inr (.inr hk)))⟩
theorem Et.st {w : World} {base d : Nat} {v1 v2 : Value} {bs : List ByteArray} {ps : List Wr} {fuse : Int} {dead : Bool} (h : Et w base d v1 v2 bs ps fuse dead) :
    (∀ f2 : Int, Et (w.setCell ⟨d, 2, none⟩ (.int .i64 f2)) base d v1 v2 bs ps f2 dead) ∧ (∀ b2 : Bool, Et (w.setCell ⟨d, 3, none⟩ (.bool b2)) base d v1 v2 bs ps fuse b2) := by
  have n1 : v1.ownBlock ≠ some d := h.own.ne h.blk (by decide)
  have n2 : v2.ownBlock ≠ some d := h.pend.ne h.blk (by decide)
  exact ⟨fun f2 => ⟨h.blk.st 2 _, h.own.far (p := ⟨d, 2, none⟩) n1 _, h.pend.far (p := ⟨d, 2, none⟩) n2 _⟩, fun b2 => ⟨h.blk.st 3 _, h.own.far (p := ⟨d, 3, none⟩) n1 _, h.pend.far (p := ⟨d, 3, none⟩) n2 _⟩⟩
abbrev ET (w : World) (base d : Nat) (v1 v2 : Value) (s : DkS) : Prop := Et w base d v1 v2 s.bs s.ps s.fuse s.dead
end Go.Proofs.Ytckfkbmefdmedaa
namespace Go.Proofs.Ytckfkbmefdmedaa
open Go.RowKit Go.Proofs.Kq
open Go.Proofs.YtckfkbmefdmedaaW.PrintWords (pw_cell_below Kd Kd.C Kd.C_below)
set_option linter.unusedVariables false
set_option linter.unusedSimpArgs false
def RuP (base d : Nat) (v1 v2 : Value) (r : Ending) (s : DkS) (w : World) (e : Ending) (w' : World) : Prop :=
  e = r ∧ ∃ v2', ET w' base d v1 v2' s ∧ Fr (ES d v1 v2) w w' ∧ ∀ k, ES d v1 v2' k → ES d v1 v2 k ∨ w.heap.size ≤ k
theorem RuP.same {base d : Nat} {v1 v2 : Value} {r : Ending} {s : DkS} {w : World} (h : ET w base d v1 v2 s) : RuP base d v1 v2 r s w r w := ⟨rfl, v2, h, Fr.refl _ _, fun k hk => .inl hk⟩
end Go.Proofs.Ytckfkbmefdmedaa
namespace Go.Proofs.Ytckfkbmefdmedaa
open Go.RowKit Go.Proofs.Kq
open Go.Proofs.YtckfkbmefdmedaaW.PrintWords (pw_cell_below Kd Kd.C Kd.C_below)
set_option linter.unusedVariables false
set_option linter.unusedSimpArgs false
theorem fail_any (base d : Nat) (v1 v2 : Value) (s : DkS) (n : Int) (w : World) (h : DT w base d v1 v2 s) :
    Calls Try.prog 30 #[.pointer (some ⟨d, 0, none⟩), .int .i64 n] w (MuP base d v1 v2 (.returned (.tuple #[])) ⟨s.bs, s.ps, n, s.dead⟩ w) := by
  have hfin : Hid (MuP base d v1 v2 (.returned (.tuple #[])) ⟨s.bs, s.ps, n, s.dead⟩ w (.returned (.tuple #[])) (w.setCell ⟨d, 2, none⟩ (.int .i64 n))) := hidI
    ⟨rfl, v2, h.st.1 n, (Fr.refl _ _).setCell (fun _ => .inl rfl) _, fun k hk => .inl hk⟩
  have c0 := h.blk.c; have l0 := h.blk.lt; have f0 := h.blk.f
  clear h
  go_enter Try.func30, Try.ntmps30
  go_wp2
  refine bodyPost_end (results_none rfl _ _ _) rfl ?_
  exact hfin.out
theorem len_any (base d : Nat) (v1 v2 : Value) (s : DkS) (w : World) (h : DT w base d v1 v2 s) :
    Calls Try.prog 33 #[.pointer (some ⟨d, 0, none⟩)] w fun e w' => e = .returned (.int .i64 s.bs.length) ∧ w' = w := by
  obtain ⟨A, c, rfl, _⟩ := h.own.slice_
  have c0 := h.blk.c; have l0 := h.blk.lt; have f0 := h.blk.f
  clear h
  go_enter Try.func33, Try.ntmps33
  go_wp2
  go_ret
  exact ⟨rfl, rfl⟩
theorem dead_any (base d : Nat) (v1 v2 : Value) (s : DkS) (w : World) (h : DT w base d v1 v2 s) :
    Calls Try.prog 34 #[.pointer (some ⟨d, 0, none⟩)] w fun e w' => e = .returned (.bool s.dead) ∧ w' = w := by
  have c0 := h.blk.c; have l0 := h.blk.lt; have f0 := h.blk.f
  clear h
  go_enter Try.func34, Try.ntmps34
  go_wp2
  go_ret
  exact ⟨rfl, rfl⟩
end Go.Proofs.Ytckfkbmefdmedaa
namespace Go.Proofs.Ytckfkbmefdmedaa
open Go.RowKit Go.Proofs.Kq
open Go.Proofs.YtckfkbmefdmedaaW.PrintWords (pw_cell_below Kd Kd.C Kd.C_below encs)
set_option linter.unusedVariables false
set_option linter.unusedSimpArgs false
theorem strs_encs (bs : List ByteArray) : bs.flatMap sl = encs Value.string bs := by
  unfold sl encs
  rw [List.map_eq_flatMap]
def ClP (bs : List ByteArray) (w : World) (e : Ending) (w' : World) : Prop := ∃ v, e = .returned v ∧ Strs w' w.heap.size v bs ∧ Below w.heap.size w w'
set_option maxRecDepth 100000 in
set_option maxHeartbeats 1000000 in
theorem clone_own (base : Nat) (v : Value) (bs : List ByteArray) (w : World) (h : Strs w base v bs) (hl : bs.length ≤ 1000000) : Calls Try.prog 18 #[v] w (ClP bs w) := by
  rcases h.cases_ with ⟨rfl, rfl⟩ | ⟨b, c, rfl, hc, hm, hb, hlt⟩
  · have he := fun w => Lib.run_eql_slice_nil (P := Try.prog) w 22 9 none 0 0 0 0 Try.underlying22
    have hfin : Hid (ClP [] w (.returned (.slice none 0 0)) w) := hidI ⟨_, rfl, Go.Proofs.Kq.Own.nil _ _ _ _ _, Below.refl _ _⟩
    clear h
    go_enter Try.func18, Try.ntmps18
    go_wp2
    go_ret
    exact hfin.out
  · obtain ⟨i0, hi, hz0, hz1, hz2⟩ := info_parts info9s
    have hR : Reads w w.heap.size 1 (some ⟨b, 0, none⟩) bs.length (bs.flatMap sl) := Reads.of_own h
    have he := fun w => Lib.run_eql_slice_nil (P := Try.prog) w 22 9 (some ⟨b, 0, none⟩) bs.length c 0 0 Try.underlying22
    clear h
    go_enter Try.func18, Try.ntmps18
    go_wp2_with (at_builtin; refine wpList_append_any _ rfl (.tmp 5) (.tmp 6) 22 rfl w.heap.size 9 i0 (.string ⟨#[]⟩) 1 16 Try.underlying22 hi hz0 hz1 hz2 rfl (by decide) (.slice (some ⟨w.heap.size, 0, none⟩) 0 0) 0 [] rfl ?aO w.heap.size (some ⟨b, 0, none⟩) bs.length c (bs.flatMap sl) rfl ?aR (flat_one sl_one bs) ?aM ?aB ?aS ?_; (case aO => exact ⟨rfl, .inr ⟨w.heap.size, 0, #[], rfl, Nat.le_refl _, by (show (w.heap.push _)[w.heap.size]? = _; simp), Nat.le_refl _, by decide, rfl, rfl⟩⟩); (case aR => exact hR.alloc (Nat.le_refl _) _); (case aM => simp only [maxLen]; omega); (case aB => omega); (case aS => simp); intro v1 w1 hown hg hat)
    go_ret
    exact ⟨_, rfl, by simpa [Go.Proofs.Kq.Own] using hown, (below_new (Below.refl _ _) _).grown hg (by simp) (fun k hk => by cases hk; exact Nat.le_refl _)⟩
theorem all_any (base d : Nat) (v1 v2 : Value) (s : DkS) (w : World) (h : DT w base d v1 v2 s) (hl : s.bs.length ≤ 1000000) :
    Calls Try.prog 28 #[.pointer (some ⟨d, 0, none⟩)] w (ClP s.bs w) := by
  have c0 := h.blk.c; have l0 := h.blk.lt; have f0 := h.blk.f
  have hc := clone_own base v1 s.bs w h.own hl
  clear h
  go_enter Try.func28, Try.ntmps28
  go_wp2_with fail
  with_reducible refine hc.mono ?_
  rintro e w1 ⟨v, rfl, hO, hb⟩
  have hfin : Hid (ClP s.bs w (.returned v) w1) := hidI ⟨v, rfl, hO, hb⟩
  clear hO hb hc
  simp only []
  go_wp2_with fail
  go_ret
  exact hfin.out
end Go.Proofs.Ytckfkbmefdmedaa
namespace Go.Proofs.Ytckfkbmefdmedaa
open Go.RowKit Go.Proofs.Kq
open Go.Proofs.YtckfkbmefdmedaaW.PrintWords (pw_cell_below Kd Kd.C Kd.C_below encs)
set_option linter.unusedVariables false
set_option linter.unusedSimpArgs false
def setAll (bs : List ByteArray) (l : List Wr) : List ByteArray := l.foldl (fun b p => b.set p.at_.toNat p.data) bs
theorem setAll_len : ∀ (l : List Wr) (bs : List ByteArray), (setAll bs l).length = bs.length
  | [], bs => rfl
  | p :: l, bs => by show (setAll (bs.set _ _) l).length = _; rw [setAll_len l]; simp
theorem setAll_snoc (bs : List ByteArray) (l : List Wr) (p : Wr) : setAll bs (l ++ [p]) = (setAll bs l).set p.at_.toNat p.data := by simp [setAll]
def inB (n : Nat) (ps : List Wr) : Prop := ∀ p ∈ ps, 0 ≤ p.at_ ∧ p.at_ < n
def syS (s : DkS) : Int × DkS :=
  if s.dead = true then (7, s)
  else if thF s.fuse s.dead = true then (0, ⟨setAll s.bs s.ps, [], thN s.fuse, decide (s.fuse = 0) || s.dead⟩)
  else (7, ⟨s.bs, s.ps, thN s.fuse, decide (s.fuse = 0) || s.dead⟩)
theorem wr_at {w : World} {base b c : Nat} {ps : List Wr} (h : Wrs w base (.slice (some ⟨b, 0, none⟩) ps.length c) ps) (k : Nat) (hk : k < ps.length) :
    w.cell? ⟨b, k * 2, none⟩ = some (.int .i64 ps[k].at_) ∧ w.cell? ⟨b, k * 2 + 1, none⟩ = some (.string ps[k].data) := by
  rcases h.2 with ⟨e, _⟩ | ⟨g, cap, cur, e, hg, hh, hn, hm, hcs, hcur⟩
  · cases e
  · cases e
    have gt : ∀ j u, (Wr.l ps[k])[j]? = some u → w.cell? ⟨b, k * 2 + j, none⟩ = some u := by
      intro j u hu
      have := Kp.flat_get wr_len hu ps k (List.getElem?_eq_getElem hk)
      rw [← hcur, List.getElem?_take] at this
      split at this
      · simp only [World.cell?, hh, Option.isSome_none, Bool.false_eq_true, if_false]
        rw [← Array.getElem?_toList]; exact this
      · cases this
    exact ⟨gt 0 _ rfl, gt 1 _ rfl⟩
theorem str_at {w : World} {base b c : Nat} {bs : List ByteArray} (h : Strs w base (.slice (some ⟨b, 0, none⟩) bs.length c) bs) (k : Nat) (hk : k < bs.length) :
    w.cell? ⟨b, k, none⟩ = some (.string bs[k]) ∧ w.frozen? ⟨b, k, none⟩ = false := by
  rcases h.2 with ⟨e, _⟩ | ⟨g, cap, cur, e, hg, hh, hn, hm, hcs, hcur⟩
  · cases e
  · cases e
    constructor
    · have := Kp.flat_get sl_len (i := 0) (u := .string bs[k]) rfl bs k (List.getElem?_eq_getElem hk)
      rw [← hcur, List.getElem?_take] at this
      split at this
      · simp only [World.cell?, hh, Option.isSome_none, Bool.false_eq_true, if_false]
        rw [← Array.getElem?_toList]; simpa using this
      · cases this
    · simp [World.frozen?, hh]
theorem str_set {w : World} {base b c : Nat} {bs : List ByteArray} (h : Strs w base (.slice (some ⟨b, 0, none⟩) bs.length c) bs) (k : Nat) (z : ByteArray) :
    Strs (w.setCell ⟨b, k, none⟩ (.string z)) base (.slice (some ⟨b, 0, none⟩) bs.length c) (bs.set k z) := by
  have h0 : w.ownsRow base 9 1 (.slice (some ⟨b, 0, none⟩) bs.length c) bs.length (encs Value.string bs) := by rw [← strs_encs]; exact h
  have h1 := (Go.Proofs.YtckfkbmefdmedaaW.PrintWords.Kd.R_put (enc := Value.string) (h1 := fun _ => rfl) (ok := fun _ => True) (Go.Proofs.YtckfkbmefdmedaaW.PrintWords.Kd.R_of_own h0 (fun _ _ => trivial)) (k : Int) z).1
  have h2 := Go.Proofs.YtckfkbmefdmedaaW.PrintWords.Kd.own_of_R h1
  rw [Int.toNat_natCast] at h2
  unfold Strs Go.Proofs.Kq.Own
  rw [strs_encs]
  exact h2
theorem Dt.put {w : World} {base d b c : Nat} {v2 : Value} {bs : List ByteArray} {ps : List Wr} {fuse : Int} {dead : Bool} (h : Dt w base d (.slice (some ⟨b, 0, none⟩) bs.length c) v2 bs ps fuse dead) (k : Nat) (z : ByteArray) :
    Dt (w.setCell ⟨b, k, none⟩ (.string z)) base d (.slice (some ⟨b, 0, none⟩) bs.length c) v2 (bs.set k z) ps fuse dead := by
  have n1 : d ≠ b := fun e => h.own.ne h.blk (by decide) (by rw [e]; rfl)
  have n2 : v2.ownBlock ≠ some b := fun e => h.own.ne_own h.pend (by decide) b rfl e
  exact ⟨h.blk.so n1, str_set h.own k z, h.pend.far (p := ⟨b, k, none⟩) n2 _⟩
set_option maxHeartbeats 2000000 in
set_option maxRecDepth 100000 in
theorem sync_any (base d : Nat) (v1 v2 : Value) (s : DkS) (w : World) (h : DT w base d v1 v2 s) (hf : -9223372036854775808 ≤ s.fuse ∧ s.fuse ≤ 9223372036854775807) (hl : s.ps.length ≤ 5000000000000) (hin : inB s.bs.length s.ps) :
    Calls Try.prog 27 #[.pointer (some ⟨d, 0, none⟩)] w (MuP base d v1 v2 (.returned (.int .i64 (syS s).1)) (syS s).2 w) := by
  obtain ⟨bs, ps, fuse, dead⟩ := s
  obtain ⟨R, hR⟩ : ∃ R, R = syS ⟨bs, ps, fuse, dead⟩ := ⟨_, rfl⟩
  rw [← hR]
  have HR := hidI hR
  clear hR
  have c0 := h.blk.c; have l0 := h.blk.lt; have f0 := h.blk.f
  cases dead
  · have hT := thing_any base d v1 v2 bs ps fuse false w h hf
    clear h
    go_enter Try.func27, Try.ntmps27
    go_wp2_with fail
    with_reducible refine hT.mono ?_
    rintro e w1 ⟨rfl, hD1, hF1⟩
    simp only []
    have HD1 := hidI hD1
    have HF1 := hidI hF1
    clear hT hD1 hF1 c0 l0 f0
    cases hth : thF fuse false
    · have hfin : Hid (MuP base d v1 v2 (.returned (.int .i64 R.1)) R.2 w (.returned (.int .i64 7)) w1) := hidI (by
        have e1 : R = (7, ⟨bs, ps, thN fuse, decide (fuse = 0) || false⟩) := by rw [HR.out]; unfold syS; simp [hth]
        rw [e1]
        exact ⟨rfl, v2, HD1.out, HF1.out.mono (fun b _ e => .inl e), fun k hk => .inl hk⟩)
      clear hth
      go_wp2_with fail
      go_ret
      exact hfin.out
    · have hRe : Hid (R = (0, ⟨setAll bs ps, [], thN fuse, decide (fuse = 0) || false⟩)) := hidI (by rw [HR.out]; unfold syS; simp [hth])
      clear hth
      generalize thN fuse = fuse2 at *
      generalize (decide (fuse = 0) || false) = dead2 at *
      have c1 := HD1.out.blk.c; have l1 := HD1.out.blk.lt; have f1 := HD1.out.blk.f
      obtain ⟨A2, c2, rfl, _⟩ := HD1.out.pend.slice_
      go_wp2_with fail
      go_loopw [23] (fun i wr => ∃ k : Nat, k ≤ ps.length ∧ i = .int .i64 k ∧ Hid (Dt wr base d v1 (.slice A2 ps.length c2) (setAll bs (ps.take k)) ps fuse2 dead2 ∧ Fr (DS d v1 (.slice A2 ps.length c2)) w wr)) (fun i _ => ps.length - (intOf i).toNat)
      case atStart => exact ⟨0, Nat.zero_le _, rfl, hidI ⟨HD1.out, HF1.out.mono (fun b _ e => .inl e)⟩⟩
      case round =>
        obtain ⟨k, hk, rfl, hI⟩ := hrel
        by_cases hlt : k < ps.length
        · have h0 : 0 < bs.length := by have := (hin ps[k] (List.getElem_mem hlt)); omega
          have hlt' : decide ((k : Int) < (ps.length : Int)) = true := decide_eq_true (by omega)
          obtain ⟨b2, rfl⟩ : ∃ b2, A2 = some ⟨b2, 0, none⟩ := by
            rcases hI.out.1.pend.cases_ with ⟨e, h⟩ | ⟨b, c, e, _⟩
            · rw [h] at hlt; simp at hlt
            · injection e with e1; exact ⟨b, e1⟩
          obtain ⟨q0, q1⟩ := wr_at hI.out.1.pend k hlt
          obtain ⟨m, hm⟩ : ∃ m : Nat, ps[k].at_ = (m : Int) := ⟨ps[k].at_.toNat, by have := (hin ps[k] (List.getElem_mem hlt)); omega⟩
          have hmb : m < bs.length := by have := (hin ps[k] (List.getElem_mem hlt)); omega
          obtain ⟨z, hz⟩ : ∃ z, z = ps[k].data := ⟨_, rfl⟩
          rw [hm] at q0
          rw [← hz] at q1
          have hst : Hid (setAll bs (ps.take (k + 1)) = (setAll bs (ps.take k)).set m z) := hidI (by
            rw [List.take_succ_eq_append_getElem hlt, setAll_snoc, hm, ← hz, Int.toNat_natCast])
          clear hm hz
          obtain ⟨b1, c3, rfl⟩ : ∃ b1 c3, v1 = .slice (some ⟨b1, 0, none⟩) bs.length c3 := by
            rcases HD1.out.own.cases_ with ⟨e, h⟩ | ⟨b, c, e, _⟩
            · rw [h] at h0; simp at h0
            · exact ⟨b, c, e⟩
          have hbw := below_new (Below.refl wr.heap.size wr) (.cells #[.int .i64 (m : Int), .string z] 135)
          have hD' := hI.out.1.below hbw
          have hF' : Fr (DS d (.slice (some ⟨b1, 0, none⟩) bs.length c3) (.slice (some ⟨b2, 0, none⟩) ps.length c2)) w _ := hI.out.2.below hbw
          have hsl : (setAll bs (ps.take k)).length = bs.length := setAll_len _ _
          rw [← hsl] at hD'
          have hat := str_at hD'.own m (by omega)
          obtain ⟨zo, qs⟩ : ∃ zo : ByteArray, (wr.alloc (.cells #[.int .i64 (m : Int), .string z] 135)).cell? ⟨b1, m, none⟩ = some (.string zo) := ⟨_, hat.1⟩
          have qf := hat.2
          have hput := hD'.put m z
          rw [← hst.out, hsl] at hput
          rw [hsl] at hD'
          have cd := hD'.blk.c; have ld := hD'.blk.lt; have fd := hD'.blk.f
          have hBn : Blk (wr.alloc (.cells #[.int .i64 (m : Int), .string z] 135)) wr.heap.size #[.int .i64 (m : Int), .string z] 135 := Blk.new' rfl
          have cn := hBn.c; have ln := hBn.lt; have fn := hBn.f
          have HN := hidI (And.intro hput (hF'.setCell (p := ⟨b1, m, none⟩) (fun _ => .inr (.inl rfl)) (.string z)))
          have hmb' : decide ((m : Int) < (bs.length : Int)) = true := decide_eq_true (by omega)
          clear hD' hF' hput hat hBn hsl hst hbw
          go_wp2_with fail
          generalize wr.alloc (.cells #[.int .i64 (m : Int), .string z] 135) = wx at *
          go_region
          go_wp2_with fail
          go_roundw
          · exact ⟨k + 1, by omega, by simp, hidI ⟨⟨HN.out.1.blk.dr, HN.out.1.own.drew, HN.out.1.pend.drew⟩, HN.out.2.drew⟩⟩
          · simp [intOf]; omega
        · have hlt' : decide ((k : Int) < (ps.length : Int)) = false := decide_eq_false (by omega)
          have hD := hI.out.1
          rw [List.take_of_length_le (by omega)] at hD
          have hfin : Hid (MuP base d v1 (.slice A2 ps.length c2) (.returned (.int .i64 R.1)) R.2 w (.returned (.int .i64 0)) (wr.setCell ⟨d, 1, none⟩ (.slice none 0 0))) := hidI (by
            rw [hRe.out]
            refine ⟨rfl, .slice none 0 0, ⟨hD.blk.st 1 _, hD.own.far (p := ⟨d, 1, none⟩) (hD.own.ne hD.blk (by decide)) _, Go.Proofs.Kq.Own.nil _ _ _ _ _⟩, hI.out.2.setCell (fun _ => .inl rfl) _, ?_⟩
            rintro q (h | h | h)
            · exact .inl (.inl h)
            · exact .inl (.inr (.inl h))
            · cases h)
          have cd := hD.blk.c; have ld := hD.blk.lt; have fd := hD.blk.f
          clear hD
          go_wp2_with fail
          go_ret
          exact hfin.out
  · have hfin : Hid (MuP base d v1 v2 (.returned (.int .i64 R.1)) R.2 w (.returned (.int .i64 7)) w) := hidI (by
      have e1 : R = (7, ⟨bs, ps, fuse, true⟩) := by rw [HR.out]; rfl
      rw [e1]; exact MuP.same h)
    clear h
    go_enter Try.func27, Try.ntmps27
    go_wp2
    go_ret
    exact hfin.out
end Go.Proofs.Ytckfkbmefdmedaa
namespace Go.Proofs.Ytckfkbmefdmedaa
open Go.RowKit Go.Proofs.Kq
open Go.Proofs.YtckfkbmefdmedaaW.PrintWords (pw_cell_below Kd Kd.C Kd.C_below encs)
set_option linter.unusedVariables false
set_option linter.unusedSimpArgs false
theorem Et.put {w : World} {base d b c : Nat} {v2 : Value} {bs : List ByteArray} {ps : List Wr} {fuse : Int} {dead : Bool} (h : Et w base d (.slice (some ⟨b, 0, none⟩) bs.length c) v2 bs ps fuse dead) (k : Nat) (z : ByteArray) :
    Et (w.setCell ⟨b, k, none⟩ (.string z)) base d (.slice (some ⟨b, 0, none⟩) bs.length c) v2 (bs.set k z) ps fuse dead := by
  have n1 : d ≠ b := fun e => h.own.ne h.blk (by decide) (by rw [e]; rfl)
  have n2 : v2.ownBlock ≠ some b := fun e => h.own.ne_own h.pend (by decide) b rfl e
  exact ⟨h.blk.so n1, str_set h.own k z, h.pend.far (p := ⟨b, k, none⟩) n2 _⟩
end Go.Proofs.Ytckfkbmefdmedaa
namespace Go.Proofs.Ytckfkbmefdmedaa
open Go.RowKit Go.Proofs.Kq Go.Shelf
set_option linter.unusedVariables false
set_option linter.unusedSimpArgs false
attribute [local go_sem] Oper.semAt_some
def bwAt (ps : List Wr) (j : Nat) : Int × Wr := (((ps.length - 1 - j : Nat) : Int), ps.getD (ps.length - 1 - j) ⟨0, ⟨#[]⟩⟩)
def bwU (ps : List Wr) (k : Nat) : List (Int × Wr) := (List.range k).map (bwAt ps)
theorem bwU_succ (ps : List Wr) (k : Nat) : bwU ps (k + 1) = bwU ps k ++ [bwAt ps k] := by simp [bwU, List.range_succ]
theorem bwU_len (ps : List Wr) (k : Nat) : (bwU ps k).length = k := by simp [bwU]
def encW (x : Int × Wr) : Array Value := #[.int .i64 x.1, .agg #[.int .i64 x.2.at_, .string x.2.data]]
set_option maxRecDepth 100000 in
set_option maxHeartbeats 2000000 in
theorem back1_in (F : Fence) (n : Nat) (h106 : F.fn 106) (hro : F.round = none) (hn : 1 ≤ n) (l Bs n₀ b cap : Nat) (ps : List Wr) (hlen : ps.length ≤ 5000000000000) (hb : b < n₀) (hBn : Bs < n₀) (J Jx : List (Int × Wr) → World → Prop)
    (hY : ∀ pre x W, J pre W → pre.length < ps.length → YieldAt F (n - 1) Try.prog l (encW x) W fun e W' =>
      (e = .returned (.bool true) ∧ J (pre ++ [x]) W' ∧ Below n₀ W W') ∨ (e = .returned (.bool false) ∧ Jx (pre ++ [x]) W'))
    (W : World) (hBs : W.cell? ⟨Bs, 0, none⟩ = some (.slice (some ⟨b, 0, none⟩) ps.length cap))
    (hc : ∀ (j : Nat) (hj : j < ps.length), W.cell? ⟨b, j * 2, none⟩ = some (.int .i64 ps[j].at_) ∧ W.cell? ⟨b, j * 2 + 1, none⟩ = some (.string ps[j].data)) (h0 : J [] W) :
    CallsIn F n Try.prog 106 #[.func (.yield l) #[] #[], .pointer (some ⟨Bs, 0, none⟩)] W fun e W' => (∃ v, e = .returned v) ∧
      ((∃ ys, ys = bwU ps ps.length ∧ J ys W') ∨ (∃ pre, (∃ k, k < ps.length ∧ pre = bwU ps (k + 1)) ∧ Jx pre W')) := by
  refine callsIn_of_wp Try.func106 rfl h106 ?_ hro
  simp only [Try.ntmps106, List.size_toArray, List.length_cons, List.length_nil, Nat.reduceAdd, Nat.reduceSub, Array.replicate_succ, Array.replicate_zero, List.push_toArray, List.append_toArray, List.nil_append, List.cons_append]
  gi_wp2
  gi_loopw [3] (fun i wr => ∃ k : Nat, k ≤ ps.length ∧ i = .int .i64 ((ps.length : Int) - 1 - k) ∧ J (bwU ps k) wr ∧ Below n₀ W wr)
    (fun i _ => (intOf i + 1).toNat)
  case atStart => exact ⟨0, Nat.zero_le _, by simp, h0, Below.refl _ _⟩
  case round =>
    obtain ⟨k, hk, rfl, hJs, hnx⟩ := hrel
    by_cases hlt : k < ps.length
    · obtain ⟨j, hj⟩ : ∃ j, j = ps.length - 1 - k := ⟨_, rfl⟩
      have hjl : j < ps.length := by omega
      have hjk : (ps.length : Int) - 1 - (k : Int) = (j : Int) := by omega
      have hbx : bwAt ps k = ((j : Int), ps[j]) := by
        unfold bwAt; rw [← hj, List.getD_eq_getElem?_getD, List.getElem?_eq_getElem hjl]; rfl
      have q := (hnx.cell (p := ⟨Bs, 0, none⟩) hBn).trans hBs
      have q0 := (hnx.cell (p := ⟨b, j * 2, none⟩) hb).trans (hc j hjl).1
      have q1 := (hnx.cell (p := ⟨b, j * 2 + 1, none⟩) hb).trans (hc j hjl).2
      obtain ⟨fn, tmps, assign, body, hy, hR⟩ := hY _ (bwAt ps k) wr hJs (by rw [bwU_len]; exact hlt)
      rw [hbx] at hy
      dsimp only [encW] at hy
      rw [hjk]
      have HJ := hidI hj
      clear hj hjk hbx
      have hj0 : decide ((j : Int) ≥ 0) = true := decide_eq_true (by omega)
      have hjl' : decide ((j : Int) < (ps.length : Int)) = true := decide_eq_true (by omega)
      gi_wp2
      refine hR.mono ?_
      rintro e W3 (⟨rfl, hJ3, hk3⟩ | ⟨rfl, hJx3⟩)
      · gi_wp2
        go_roundw
        case rel => exact ⟨k + 1, by omega, by have := HJ.out; simp; omega, by rw [bwU_succ]; exact hJ3, hnx.trans hk3⟩
        case measure => simp [intOf]
      · gi_wp2
        refine bodyPost_ret (results_none rfl _ _ _) rfl ?_
        exact ⟨⟨_, rfl⟩, .inr ⟨_, ⟨k, by omega, rfl⟩, by rw [bwU_succ]; exact hJx3⟩⟩
    · obtain rfl : k = ps.length := by omega
      have e0 : (ps.length : Int) - 1 - (ps.length : Int) = -1 := by omega
      rw [e0]
      gi_wp2
      go_end0
      exact ⟨⟨_, rfl⟩, .inl ⟨_, rfl, hJs⟩⟩
set_option maxRecDepth 100000 in
set_option maxHeartbeats 1000000 in
theorem back1_nil_in (F : Fence) (n : Nat) (h106 : F.fn 106) (hro : F.round = none) (l Bs : Nat) (J : List (Int × Wr) → World → Prop) (W : World) (hBs : W.cell? ⟨Bs, 0, none⟩ = some (.slice none 0 0)) (h0 : J [] W) :
    CallsIn F n Try.prog 106 #[.func (.yield l) #[] #[], .pointer (some ⟨Bs, 0, none⟩)] W fun e W' => (∃ v, e = .returned v) ∧ J [] W' := by
  refine callsIn_of_wp Try.func106 rfl h106 ?_ hro
  simp only [Try.ntmps106, List.size_toArray, List.length_cons, List.length_nil, Nat.reduceAdd, Nat.reduceSub, Array.replicate_succ, Array.replicate_zero, List.push_toArray, List.append_toArray, List.nil_append, List.cons_append]
  gi_wp2
  gi_loopw [3] (fun i wr => i = .int .i64 (-1) ∧ J [] wr) (fun _ _ => 0)
  case atStart => exact ⟨rfl, h0⟩
  case round =>
    obtain ⟨rfl, hJs⟩ := hrel
    gi_wp2
    go_end0
    exact ⟨⟨_, rfl⟩, hJs⟩
set_option maxHeartbeats 1000000 in
theorem back_in (F : Fence) (n : Nat) (h80 : F.fn 80) (hro : F.round = none) (a : Option Addr) (len cap : Nat) (w : World) :
    CallsIn F n Try.prog 80 #[.slice a len cap] w fun e w' => e = .returned (.func (.func 106) #[] #[.pointer (some ⟨w.heap.size, 0, none⟩)]) ∧ w' = w.alloc (.cells #[.slice a len cap] 130) := by
  refine callsIn_of_wp Try.func80 rfl h80 ?_ hro
  simp only [Try.ntmps80, List.size_toArray, List.length_cons, List.length_nil, Nat.reduceAdd, Nat.reduceSub, Array.replicate_succ, Array.replicate_zero, List.push_toArray, List.append_toArray, List.nil_append, List.cons_append]
  gi_wp2
  go_ret
  exact ⟨rfl, rfl⟩
def WrsAt (n₀ : Nat) (W : World) (v : Value) (ps : List Wr) : Prop := (v = .slice none 0 0 ∧ ps = []) ∨ ∃ b cap, v = .slice (some ⟨b, 0, none⟩) ps.length cap ∧ b < n₀ ∧ ∀ (j : Nat) (hj : j < ps.length), W.cell? ⟨b, j * 2, none⟩ = some (.int .i64 ps[j].at_) ∧ W.cell? ⟨b, j * 2 + 1, none⟩ = some (.string ps[j].data)
theorem WrsAt.below {n₀ : Nat} {A B : World} {v : Value} {ps : List Wr} (hb : Below n₀ A B) : WrsAt n₀ A v ps → WrsAt n₀ B v ps
  | .inl e => .inl e
  | .inr ⟨b, cap, e, hlt, hc⟩ => .inr ⟨b, cap, e, hlt, fun j hj => ⟨(hb.cell (p := ⟨b, j * 2, none⟩) hlt).trans (hc j hj).1, (hb.cell (p := ⟨b, j * 2 + 1, none⟩) hlt).trans (hc j hj).2⟩⟩
theorem WrsAt.of {w : World} {base : Nat} {v : Value} {ps : List Wr} (h : Wrs w base v ps) : WrsAt w.heap.size w v ps := by
  rcases h.cases_ with ⟨rfl, rfl⟩ | ⟨b, c, rfl, _, _, _, hlt⟩
  · exact .inl ⟨rfl, rfl⟩
  · exact .inr ⟨b, c, rfl, hlt, fun j hj => wr_at h j hj⟩
theorem back_stops (F : Fence) (n : Nat) (h106 : F.fn 106) (hro : F.round = none) (hn : 1 ≤ n) (Bs n₀ : Nat) (v : Value) (ps : List Wr) (hlen : ps.length ≤ 5000000000000) (w : World) (hBs : Bs < n₀) (hn₀ : n₀ ≤ w.heap.size)
    (hc : w.cell? ⟨Bs, 0, none⟩ = some v) (hI : WrsAt n₀ w v ps) :
    SeqStopsK F n Try.prog 106 #[.pointer (some ⟨Bs, 0, none⟩)] encW (Below n₀) (fun ys => ys = bwU ps ps.length) (fun pre => ∃ k, k < ps.length ∧ pre = bwU ps (k + 1)) ps.length w := fun l J Jx W hW _ _ hY h0 => by
  have hc' := (hW.cell (p := ⟨Bs, 0, none⟩) (show Bs < w.heap.size by omega)).trans hc
  rcases hI.below (hW.mono hn₀) with ⟨rfl, rfl⟩ | ⟨b, cap, rfl, hb, hcs⟩
  · exact (back1_nil_in F n h106 hro l Bs J W hc' h0).mono fun e W' ⟨he, hj⟩ => ⟨he, .inl ⟨_, rfl, hj⟩⟩
  · refine (back1_in F n h106 hro hn l Bs n₀ b cap ps hlen hb hBs J Jx hY W hc' hcs h0).mono ?_
    rintro e W' ⟨he, h⟩
    exact ⟨he, h⟩
end Go.Proofs.Ytckfkbmefdmedaa
namespace Go.Proofs.Ytckfkbmefdmedaa
open Go.RowKit Go.Proofs.Kq Go.Shelf
open Go.Proofs.YtckfkbmefdmedaaW.PrintWords (pw_cell_below)
set_option linter.unusedVariables false
set_option linter.unusedSimpArgs false
attribute [local go_sem] Oper.semAt_some
theorem blk_own {β : Type} (B : Nat) (t : TypeId) (f : β → Array Value) : Go.Own (fun s W => Blk W B (f s) t) := fun s X Y row hs hg hrow => by
  have h1 : X.heap[B]? = some (.cells (f s) t (0, 0)) := hs
  refine (hg.block B hs.lt (fun e => ?_)).trans hs
  obtain ⟨o, ho, hc⟩ := hrow B e.symm
  rw [h1] at ho; cases ho; cases hc
def rdF (s : DkS) (at_ : Int) : ByteArray × Int :=
  if usF s.bs.length s.dead at_ = 0 then
    (match s.ps.reverse.find? (fun p => decide (p.at_ = at_)) with
    | some p => (p.data, 0)
    | none => (s.bs.getD at_.toNat ByteArray.empty, 0))
  else (⟨#[]⟩, usF s.bs.length s.dead at_)
def RdP (R : ByteArray × Int) (w : World) (e : Ending) (w' : World) : Prop := e = .returned (.tuple #[.string R.1, .int .i64 R.2]) ∧ Below w.heap.size w w'
theorem bwU_snd (ps : List Wr) : (bwU ps ps.length).map Prod.snd = ps.reverse := by
  apply List.ext_getElem
  · simp [bwU]
  · intro i h1 h2
    simp [bwU] at h1
    simp only [bwU, List.getElem_map, List.getElem_range, bwAt, List.getElem_reverse]
    rw [List.getD_eq_getElem?_getD, List.getElem?_eq_getElem (by omega), Option.getD_some]
theorem bwU_find (ps : List Wr) (at_ : Int) (k : Nat) (hk : k < ps.length) (h1 : ∀ y ∈ bwU ps k, y.2.at_ ≠ at_) (h2 : (bwAt ps k).2.at_ = at_) : ps.reverse.find? (fun p => decide (p.at_ = at_)) = some (bwAt ps k).2 := by
  rw [← bwU_snd]
  have hsplit : bwU ps ps.length = bwU ps k ++ (bwAt ps k :: (List.range' (k + 1) (ps.length - (k + 1))).map (bwAt ps)) := by
    unfold bwU
    rw [List.range_eq_range', List.range_eq_range', show ps.length = k + (1 + (ps.length - (k + 1))) by omega, ← List.range'_append, List.map_append]
    congr 1
    rw [Nat.one_mul, Nat.zero_add, Nat.add_comm 1, List.range'_succ, List.map_cons]
    congr 3
    omega
  rw [hsplit, List.map_append, List.find?_append]
  have hn : ((bwU ps k).map Prod.snd).find? (fun p => decide (p.at_ = at_)) = none := by
    rw [List.find?_eq_none]
    intro x hx
    obtain ⟨y, hy, rfl⟩ := List.mem_map.1 hx
    simpa using h1 y hy
  rw [hn, Option.none_or, List.map_cons, List.find?_cons_of_pos (by simpa using h2)]
theorem bwU_none (ps : List Wr) (at_ : Int) (h1 : ∀ y ∈ bwU ps ps.length, y.2.at_ ≠ at_) : ps.reverse.find? (fun p => decide (p.at_ = at_)) = none := by
  rw [← bwU_snd, List.find?_eq_none]
  intro x hx
  obtain ⟨y, hy, rfl⟩ := List.mem_map.1 hx
  simpa using h1 y hy
theorem res31 (tmps : Array Value) (w : World) (b1 b2 : Nat) (s : ByteArray) (e : Int) (h4 : tmps[4]? = some (.pointer (some ⟨b1, 0, none⟩))) (h5 : tmps[5]? = some (.pointer (some ⟨b2, 0, none⟩))) (c1 : w.cell? ⟨b1, 0, none⟩ = some (.string s)) (c2 : w.cell? ⟨b2, 0, none⟩ = some (.int .i64 e)) :
    (results Try.f31 tmps).run Try.prog w = .ok (.tuple #[.string s, .int .i64 e]) w := by
  simp [results, Try.results31, go_sem, h4, h5, c1, c2]
set_option maxRecDepth 100000 in
set_option maxHeartbeats 4000000 in
theorem read_any (base d : Nat) (v1 v2 : Value) (s : DkS) (at_ : Int) (w : World) (h : DT w base d v1 v2 s) (hlp : s.ps.length ≤ 5000000000000) (hu : usF s.bs.length s.dead at_ = 0) : Calls Try.prog 31 #[.pointer (some ⟨d, 0, none⟩), .int .i64 at_] w (RdP (rdF s at_) w) := by
  obtain ⟨W3, hW3⟩ : ∃ W3, ((w.alloc (.cells #[.int .i64 at_] 3)).alloc (.cells #[.string ⟨#[]⟩] 9)).alloc (.cells #[.int .i64 0] 24) = W3 := ⟨_, rfl⟩
  have hb3 : Below w.heap.size w W3 := by rw [← hW3]; exact below_new (below_new (below_new (Below.refl _ _) _) _) _
  have hD3 := h.below hb3
  have hU := usable_any base d v1 v2 s.bs s.ps s.fuse s.dead at_ W3 hD3
  unfold UsP at hU
  rw [hu] at hU
  obtain ⟨A2, c2, rfl, _⟩ := h.pend.slice_
  have c0 := hD3.blk.c; have l0 := hD3.blk.lt; have f0 := hD3.blk.f
  have B0 : Blk W3 w.heap.size #[.int .i64 at_] 3 := by rw [← hW3]; exact ((Blk.new' rfl).al _).al _
  have B1 : Blk W3 (w.heap.size + 1) #[.string ⟨#[]⟩] 9 := by rw [← hW3]; exact (Blk.new' (by simp)).al _
  have B2 : Blk W3 (w.heap.size + 1 + 1) #[.int .i64 0] 24 := by rw [← hW3]; exact Blk.new' (by simp)
  have hs3 : W3.heap.size = w.heap.size + 3 := by rw [← hW3]; simp
  have HD := hidI h
  have HU := hidI hu
  clear h hu
  refine (callsIn_wide (n := 6)).1 ?_
  refine callsIn_of_wp_marks Try.func31 rfl trivial ?_ rfl
  simp only [Try.ntmps31, List.size_toArray, List.length_cons, List.length_nil, Nat.reduceAdd, Nat.reduceSub, Array.replicate_succ, Array.replicate_zero, List.push_toArray, List.append_toArray, List.nil_append, List.cons_append]
  have cB0 := B0.c; have lB0 := B0.lt
  gi_wp2
  refine ⟨trivial, (callsIn_wide.2 hU).mono ?_⟩
  rintro e w' ⟨rfl, rfl⟩
  clear hU hW3
  gi_wp2
  refine ⟨trivial, (back_in Fence.wide _ trivial rfl _ _ _ _).mono ?_⟩
  rintro e w'' ⟨rfl, hw4⟩
  gi_wp2
  subst hw4
  have B0' := B0.al (.cells #[.slice A2 s.ps.length c2] 130)
  have B1' := B1.al (.cells #[.slice A2 s.ps.length c2] 130)
  have B2' := B2.al (.cells #[.slice A2 s.ps.length c2] 130)
  have B3' : Blk (w'.alloc (.cells #[.slice A2 s.ps.length c2] 130)) (w.heap.size + 3) #[.slice A2 s.ps.length c2] 130 := Blk.new' (by omega)
  have hb4 : Below w.heap.size w (w'.alloc (.cells #[.slice A2 s.ps.length c2] 130)) := below_new hb3 _
  have hD4 := hD3.below (below_new (Below.refl _ _) (.cells #[.slice A2 s.ps.length c2] 130))
  have hs4 : (w'.alloc (.cells #[.slice A2 s.ps.length c2] 130)).heap.size = w.heap.size + 4 := by simp; omega
  obtain ⟨W4, hW4⟩ : ∃ W4, w'.alloc (.cells #[.slice A2 s.ps.length c2] 130) = W4 := ⟨_, rfl⟩
  rw [hW4] at B0' B1' B2' B3' hb4 hD4 hs4 ⊢
  clear hW4 B0 B1 B2 hb3 hD3 cB0 lB0 c0 l0 f0 hs3
  have hWA : WrsAt W4.heap.size W4 (.slice A2 s.ps.length c2) s.ps := WrsAt.of hD4.pend
  refine wpIn_rangeFunc_ownH (α := Int × Wr) rfl (show 1 ≤ 6 by decide) (gf := 106) (lb := #[.pointer (some ⟨w.heap.size + 3, 0, none⟩)]) rfl trivial (enters_of Try.func106 (by kernel_rfl) rfl)
    (back_stops Fence.wide 5 trivial rfl (by decide) (w.heap.size + 3) W4.heap.size (.slice A2 s.ps.length c2) s.ps hlp W4 (by omega) (Nat.le_refl _) (B3'.c 0) hWA) belowK_t (belowK_b (Nat.le_refl _)) (Below.refl _ _) (fun _ => rfl)
    (fun pre W => (Blk W w.heap.size #[.int .i64 at_] 3 ∧ Blk W (w.heap.size + 1) #[.string ⟨#[]⟩] 9 ∧ Blk W (w.heap.size + 1 + 1) #[.int .i64 0] 24 ∧ (∀ y ∈ pre, y.2.at_ ≠ at_) ∧ W4.heap.size ≤ W.heap.size) ∧ Below w.heap.size w W)
    (fun c pre W => (c = .ret ∧ ∃ pre' x, pre = pre' ++ [x] ∧ (∀ y ∈ pre', y.2.at_ ≠ at_) ∧ x.2.at_ = at_ ∧ Blk W (w.heap.size + 1) #[.string x.2.data] 9 ∧ Blk W (w.heap.size + 1 + 1) #[.int .i64 0] 24) ∧ Below w.heap.size w W)
    (OwnFrom.and (fun s X Y row hs hg hr => ⟨blk_own _ 3 (fun (_ : Unit) => #[.int .i64 at_]) () X Y row hs.1 hg (fun r e => (hr r e).2), blk_own _ 9 (fun (_ : Unit) => #[.string ⟨#[]⟩]) () X Y row hs.2.1 hg (fun r e => (hr r e).2), blk_own _ 24 (fun (_ : Unit) => #[.int .i64 0]) () X Y row hs.2.2.1 hg (fun r e => (hr r e).2), hs.2.2.2.1, Nat.le_trans hs.2.2.2.2 hg.size⟩) (ownFrom_below (Nat.le_refl _) (by omega)))
    (fun c => OwnFrom.and (fun s X Y row hs hg hr => by
      obtain ⟨h1, pre', x, h2, h3, h4, h5, h6⟩ := hs
      exact ⟨h1, pre', x, h2, h3, h4, blk_own _ 9 (fun (_ : Unit) => #[.string x.2.data]) () X Y row h5 hg (fun r e => (hr r e).2), blk_own _ 24 (fun (_ : Unit) => #[.int .i64 0]) () X Y row h6 hg (fun r e => (hr r e).2)⟩) (ownFrom_below (Nat.le_refl _) (by omega)))
    ⟨⟨B0', B1', B2', fun y hy => by simp at hy, Nat.le_refl _⟩, hb4⟩
    (fun x a' W => ∃ Bx, w.heap.size + 3 < Bx ∧ Blk W Bx #[.int .i64 x.2.at_, .string x.2.data] 135 ∧ a' = ({ tmps := #[.pointer (some ⟨d, 0, none⟩), .int .i64 at_, undef, .pointer (some ⟨w.heap.size, 0, none⟩), .pointer (some ⟨w.heap.size + 1, 0, none⟩), .pointer (some ⟨w.heap.size + 1 + 1, 0, none⟩), .int .i64 0, undef, .pointer (some ⟨Bx, 0, none⟩), .pointer (some ⟨d, 0, none⟩), .int .i64 at_, .int .i64 0, .int .i64 0, .bool false, undef, .pointer (some ⟨d, 0, none⟩), .pointer (some ⟨d, 0, none⟩), .pointer (some ⟨d, 1, none⟩), .slice A2 s.ps.length c2, .func (.func 106) #[] #[.pointer (some ⟨w.heap.size + 3, 0, none⟩)], .int .i64 x.1, .agg #[.int .i64 x.2.at_, .string x.2.data], undef, undef, undef, undef, undef, undef, undef, undef, undef, undef, undef, undef, undef], defers := [] } : Act))
    (fun x a' _ X Y row hs hg hr => by obtain ⟨Bx, h1, h2, h3⟩ := hs; exact ⟨Bx, h1, blk_own Bx 135 (fun (_ : Unit) => #[.int .i64 x.2.at_, .string x.2.data]) () X Y row h2 hg (fun r e => (hr r e).2), h3⟩)
    ?assign ?body ?done ?stop
  case assign =>
    rintro l pre x W K ⟨⟨I0, I1, I2, I3, I4⟩, hB1⟩ hK
    simp only [encW]
    gi_wp2
    have hWs := hB1.size
    have l2 := I2.lt
    exact hK _ _ ((KeepsOthers.alloc _ _).from _) ((Below.refl _ W).alloc I4 _) ⟨⟨I0.al _, I1.al _, I2.al _, I3, by simp; omega⟩, hB1.alloc hB1.size _⟩ ⟨W.heap.size, by omega, Blk.new' rfl, rfl⟩
  case body =>
    rintro l pre x a' W hl ⟨r, hr⟩ ⟨⟨I0, I1, I2, I3, I4⟩, hB1⟩ ⟨Bx, hBx, bX, rfl⟩ hlt
    have c0 := I0.c; have l0 := I0.lt; have f0 := I0.f
    have c1 := I1.c; have l1 := I1.lt; have f1 := I1.f
    have c2 := I2.c; have l2 := I2.lt; have f2 := I2.f
    have cX := bX.c; have lX := bX.lt
    by_cases hxa : x.2.at_ = at_
    · have g1 : (x.2.at_ == at_) = true := beq_iff_eq.mpr hxa
      have HX := hidI hxa
      clear hxa
      gi_wp2
      exact ⟨((KeepsOthers.setCell _ _ _).trans (KeepsOthers.setCell _ _ _)).from _, ⟨⟨rfl, pre, x, rfl, I3, HX.out, (I1.st 0 (.string x.2.data)).so (by simp), (I2.so (by simp)).st 0 (.int .i64 0)⟩, (hB1.setCell (p := ⟨w.heap.size + 1, 0, none⟩) (by simp) _).setCell (p := ⟨w.heap.size + 1 + 1, 0, none⟩) (by simp; omega) _⟩⟩
    · have g1 : (x.2.at_ == at_) = false := beq_eq_false_iff_ne.mpr hxa
      gi_wp2
      exact ⟨KeepsFrom.refl _ _, Below.refl _ _, ⟨⟨I0, I1, I2, fun y hy => by
        rcases List.mem_append.1 hy with h | h
        · exact I3 y h
        · rcases List.mem_singleton.1 h with rfl; exact hxa, I4⟩, hB1⟩⟩
  case done =>
    rintro D zs W hD rfl ⟨⟨I0, I1, I2, I3, I4⟩, hB1⟩ hK
    have c0 := I0.c; have l0 := I0.lt; have f0 := I0.f
    have c1 := I1.c; have l1 := I1.lt; have f1 := I1.f
    have c2 := I2.c; have l2 := I2.lt; have f2 := I2.f
    have hDW := HD.out.below hB1
    have cd := hDW.blk.c; have ld := hDW.blk.lt; have fd := hDW.blk.f
    have hat : 0 ≤ at_ ∧ at_ < s.bs.length := by
      have := HU.out; unfold usF at this
      split at this
      · omega
      · split at this
        · omega
        · omega
    obtain ⟨m, rfl⟩ : ∃ m : Nat, at_ = (m : Int) := ⟨at_.toNat, by omega⟩
    have hm : m < s.bs.length := by omega
    obtain ⟨b1, c1', rfl⟩ : ∃ b1 c1', v1 = .slice (some ⟨b1, 0, none⟩) s.bs.length c1' := by
      rcases hDW.own.cases_ with ⟨e, h⟩ | ⟨b, c, e, _⟩
      · rw [h] at hm; simp at hm
      · exact ⟨b, c, e⟩
    have q := (str_at hDW.own m hm).1
    have hm' : decide ((m : Int) < (s.bs.length : Int)) = true := decide_eq_true (by omega)
    have hr : rdF s (m : Int) = (s.bs[m], 0) := by
      unfold rdF; rw [if_pos HU.out, bwU_none s.ps m I3]
      simp [hm]
    obtain ⟨z, hz⟩ : ∃ z, z = s.bs[m] := ⟨_, rfl⟩
    rw [← hz] at q hr
    have HR := hidI hr
    clear hz hr
    gi_wp2
    gi_region
    all_goals
      gi_wp2
      obtain ⟨WX, hWX⟩ : ∃ WX, WX = ((W.setCell ⟨w.heap.size + 1, 0, none⟩ (.string z)).setCell ⟨w.heap.size + 1 + 1, 0, none⟩ (.int .i64 0)).drew := ⟨_, rfl⟩
      rw [← hWX]
      have hKX : WX.heap[D]? = some (.deferred (some [])) := by
        rw [hWX]
        exact ((KeepsOthers.setCell W ⟨w.heap.size + 1, 0, none⟩ (.string z)).trans (KeepsOthers.setCell _ ⟨w.heap.size + 1 + 1, 0, none⟩ (.int .i64 0))).same D _ hK rfl
      have K1 : Blk WX (w.heap.size + 1) #[.string z] 9 := by rw [hWX]; exact ((I1.st 0 (.string z)).so (by simp)).dr
      have K2 : Blk WX (w.heap.size + 1 + 1) #[.int .i64 0] 24 := by rw [hWX]; exact ((I2.so (by simp)).st 0 (.int .i64 0)).dr
      have hbX : Below w.heap.size w WX := by rw [hWX]; exact ((hB1.setCell (p := ⟨w.heap.size + 1, 0, none⟩) (by simp) _).setCell (p := ⟨w.heap.size + 1 + 1, 0, none⟩) (by simp; omega) _).drew
      clear hWX
      have k1 := blk_own _ 9 (fun (_ : Unit) => #[.string z]) () WX _ (some D) K1 (grownBy_putObj' WX D (.deferred none)) (fun r e => by cases e; exact ⟨_, hKX, rfl⟩)
      have k2 := blk_own _ 24 (fun (_ : Unit) => #[.int .i64 0]) () WX _ (some D) K2 (grownBy_putObj' WX D (.deferred none)) (fun r e => by cases e; exact ⟨_, hKX, rfl⟩)
      refine ⟨by simp, .inl ⟨_, _, rfl, run_takeDeferred hKX, ?_⟩⟩
      exact ⟨_, res31 _ _ _ _ _ _ rfl rfl (k1.c 0) (k2.c 0), by rw [HR.out]; exact ⟨rfl, hbX.trans (belowK_b (w := w) (Nat.le_refl _) WX D _ _ (by omega) hKX rfl rfl)⟩⟩
  case stop =>
    rintro D c pre W hD ⟨k, hk, rfl⟩ ⟨⟨rfl, pre', x, hpre, hne, hx, J1, J2⟩, hB1⟩ hK
    rw [bwU_succ] at hpre
    obtain ⟨e1, e2⟩ := List.append_inj' hpre rfl
    injection e2 with e2
    have hr : rdF s at_ = (x.2.data, 0) := by
      unfold rdF
      rw [if_pos HU.out, bwU_find s.ps at_ k hk (by rw [e1]; exact hne) (by rw [e2]; exact hx), e2]
    have HR := hidI hr
    clear hr
    gi_wp2
    have k1 := blk_own _ 9 (fun (_ : Unit) => #[.string x.2.data]) () W _ (some D) J1 (grownBy_putObj' W D (.deferred none)) (fun r e => by cases e; exact ⟨_, hK, rfl⟩)
    have k2 := blk_own _ 24 (fun (_ : Unit) => #[.int .i64 0]) () W _ (some D) J2 (grownBy_putObj' W D (.deferred none)) (fun r e => by cases e; exact ⟨_, hK, rfl⟩)
    refine ⟨by simp, .inl ⟨_, _, rfl, run_takeDeferred hK, ?_⟩⟩
    exact ⟨_, res31 _ _ _ _ _ _ rfl rfl (k1.c 0) (k2.c 0), by rw [HR.out]; exact ⟨rfl, hB1.trans (belowK_b (w := w) (Nat.le_refl _) W D _ _ (by omega) hK rfl rfl)⟩⟩
end Go.Proofs.Ytckfkbmefdmedaa
namespace Go.Proofs.Ytckfkbmefdmedaa
open Go.RowKit Go.Proofs.Kq
open Go.Proofs.YtckfkbmefdmedaaW.PrintWords (pw_cell_below Kd Kd.C Kd.C_below encs)
set_option linter.unusedVariables false
set_option linter.unusedSimpArgs false
def keepAt (ks : List Int) (i : Nat) : Nat := if i < ks.length then min (ks.getD i 0).toNat 64 else 0
def tearD (x y : ByteArray) (cut : Nat) : ByteArray := x.extract 0 cut ++ y.extract cut 64
def rsAll (ks : List Int) (i : Nat) (bs : List ByteArray) : List Wr → List ByteArray
  | [] => bs
  | p :: l => rsAll ks (i + 1) (bs.set p.at_.toNat (tearD p.data (bs.getD p.at_.toNat ByteArray.empty) (keepAt ks i))) l
theorem rsAll_snoc (ks : List Int) : ∀ (l : List Wr) (i : Nat) (bs : List ByteArray) (p : Wr), rsAll ks i bs (l ++ [p]) = (rsAll ks i bs l).set p.at_.toNat (tearD p.data ((rsAll ks i bs l).getD p.at_.toNat ByteArray.empty) (keepAt ks (i + l.length)))
  | [], i, bs, p => rfl
  | q :: l, i, bs, p => by
    simp only [List.cons_append, rsAll]
    rw [rsAll_snoc ks l (i + 1) _ p, List.length_cons, show i + 1 + l.length = i + (l.length + 1) by omega]
def All64 (bs : List ByteArray) : Prop := ∀ b ∈ bs, b.size = 64
def Wr64 (ps : List Wr) : Prop := ∀ p ∈ ps, p.data.size = 64
theorem tearD_size (x y : ByteArray) (cut : Nat) (hx : x.size = 64) (hy : y.size = 64) (hc : cut ≤ 64) : (tearD x y cut).size = 64 := by
  unfold tearD; rw [ByteArray.size_append, ByteArray.size_extract, ByteArray.size_extract]; omega
theorem keepAt_le (ks : List Int) (i : Nat) : keepAt ks i ≤ 64 := by unfold keepAt; split <;> omega
theorem all64_set {bs : List ByteArray} (h : All64 bs) (k : Nat) {z : ByteArray} (hz : z.size = 64) : All64 (bs.set k z) := by
  intro b hb
  rcases List.mem_or_eq_of_mem_set hb with h1 | h1
  · exact h b h1
  · rw [h1]; exact hz
theorem rsAll_ok (ks : List Int) : ∀ (l : List Wr) (i : Nat) (bs : List ByteArray), All64 bs → Wr64 l → inB bs.length l → (rsAll ks i bs l).length = bs.length ∧ All64 (rsAll ks i bs l)
  | [], i, bs, h, _, _ => ⟨rfl, h⟩
  | p :: l, i, bs, h, hw, hin => by
    have hp := hin p (by simp)
    have hk : p.at_.toNat < bs.length := by omega
    have hy : (bs.getD p.at_.toNat ByteArray.empty).size = 64 := by
      rw [List.getD_eq_getElem?_getD, List.getElem?_eq_getElem hk]; exact h _ (List.getElem_mem hk)
    have h2 := rsAll_ok ks l (i + 1) (bs.set p.at_.toNat (tearD p.data (bs.getD p.at_.toNat ByteArray.empty) (keepAt ks i))) (all64_set h _ (tearD_size _ _ _ (hw p (by simp)) hy (keepAt_le _ _))) (fun q hq => hw q (by simp [hq])) (fun q hq => by rw [List.length_set]; exact hin q (by simp [hq]))
    exact ⟨by rw [rsAll, h2.1, List.length_set], h2.2⟩
def rsS (s : DkS) (ks : List Int) : DkS := ⟨rsAll ks 0 s.bs s.ps, [], -1, false⟩
set_option maxHeartbeats 4000000 in
set_option maxRecDepth 100000 in
theorem restart_any (base d : Nat) (v1 v2 : Value) (s : DkS) (AK : Option Addr) (ck : Nat) (ks : List Int) (w : World) (h : DT w base d v1 v2 s) (hb : base ≤ w.heap.size)
    (hK : Kd.C (Kd.int .u8) w AK ks.length ks) (hkv : ∀ k ∈ ks, 0 ≤ k ∧ k ≤ 255) (hK0 : 0 < ks.length → ∀ b off, AK = some ⟨b, off, none⟩ → ¬ DS d v1 v2 b)
    (hl : s.ps.length ≤ 5000000000000) (hin : inB s.bs.length s.ps) (hb64 : All64 s.bs) (hw64 : Wr64 s.ps) :
    Calls Try.prog 29 #[.pointer (some ⟨d, 0, none⟩), .slice AK ks.length ck] w (MuP base d v1 v2 (.returned (.tuple #[])) (rsS s ks) w) := by
  obtain ⟨bs, ps, fuse, dead⟩ := s
  have c0 := h.blk.c; have l0 := h.blk.lt; have f0 := h.blk.f
  have HD := hidI h
  obtain ⟨A2, c2, rfl, _⟩ := h.pend.slice_
  clear h
  go_enter Try.func29, Try.ntmps29
  go_wp2_with fail
  go_loopw [14] (fun i wr => ∃ k : Nat, k ≤ ps.length ∧ i = .int .i64 k ∧ Hid (Dt wr base d v1 (.slice A2 ps.length c2) (rsAll ks 0 bs (ps.take k)) ps fuse dead ∧ Fr (DS d v1 (.slice A2 ps.length c2)) w wr)) (fun i _ => ps.length - (intOf i).toNat)
  case atStart => exact ⟨0, Nat.zero_le _, rfl, hidI ⟨HD.out, Fr.refl _ _⟩⟩
  case round =>
    obtain ⟨k, hk, rfl, hI⟩ := hrel
    by_cases hlt : k < ps.length
    · have hin1 := hin ps[k] (List.getElem_mem hlt)
      have h0 : 0 < bs.length := by omega
      have hlt' : decide ((k : Int) < (ps.length : Int)) = true := decide_eq_true (by omega)
      obtain ⟨b2, rfl⟩ : ∃ b2, A2 = some ⟨b2, 0, none⟩ := by
        rcases hI.out.1.pend.cases_ with ⟨e, h⟩ | ⟨b, c, e, _⟩
        · rw [h] at hlt; simp at hlt
        · injection e with e1; exact ⟨b, e1⟩
      obtain ⟨q0, q1⟩ := wr_at hI.out.1.pend k hlt
      obtain ⟨m, hm⟩ : ∃ m : Nat, ps[k].at_ = (m : Int) := ⟨ps[k].at_.toNat, by omega⟩
      have hmb : m < bs.length := by omega
      obtain ⟨z, hz⟩ : ∃ z, z = ps[k].data := ⟨_, rfl⟩
      rw [hm] at q0
      rw [← hz] at q1
      have hz64 : z.size = 64 := by rw [hz]; exact hw64 _ (List.getElem_mem hlt)
      have hrk := rsAll_ok ks (ps.take k) 0 bs hb64 (fun q hq => hw64 q (List.mem_of_mem_take hq)) (fun q hq => hin q (List.mem_of_mem_take hq))
      obtain ⟨cut, hcut⟩ : ∃ cut, cut = keepAt ks k := ⟨_, rfl⟩
      have hcl : cut ≤ 64 := by rw [hcut]; exact keepAt_le _ _
      obtain ⟨b1, c3, rfl⟩ : ∃ b1 c3, v1 = .slice (some ⟨b1, 0, none⟩) bs.length c3 := by
        rcases HD.out.own.cases_ with ⟨e, h⟩ | ⟨b, c, e, _⟩
        · have h : bs = [] := h
          rw [h] at h0; simp at h0
        · exact ⟨b, c, e⟩
      have hbw := below_new (Below.refl wr.heap.size wr) (.cells #[.int .i64 (m : Int), .string z] 135)
      have hD' := hI.out.1.below hbw
      have hF' : Fr (DS d (.slice (some ⟨b1, 0, none⟩) bs.length c3) (.slice (some ⟨b2, 0, none⟩) ps.length c2)) w _ := hI.out.2.below hbw
      have hsl := hrk.1
      rw [← hsl] at hD'
      have hat := str_at hD'.own m (by omega)
      obtain ⟨y, hy⟩ : ∃ y, y = (rsAll ks 0 bs (ps.take k))[m]'(by omega) := ⟨_, rfl⟩
      rw [← hy] at hat
      have hy64 : y.size = 64 := by rw [hy]; exact hrk.2 _ (List.getElem_mem _)
      have qs := hat.1
      have qf := hat.2
      have hput := hD'.put m (tearD z y cut)
      have hst : rsAll ks 0 bs (ps.take (k + 1)) = (rsAll ks 0 bs (ps.take k)).set m (tearD z y cut) := by
        rw [List.take_succ_eq_append_getElem hlt, rsAll_snoc, hm, ← hz, Int.toNat_natCast, List.length_take, Nat.zero_add, Nat.min_eq_left hk, ← hcut, hy, List.getD_eq_getElem?_getD, List.getElem?_eq_getElem (by omega), Option.getD_some]
      rw [← hst, hsl] at hput
      rw [hsl] at hD'
      have cd := hD'.blk.c; have ld := hD'.blk.lt; have fd := hD'.blk.f
      have hBn : Blk (wr.alloc (.cells #[.int .i64 (m : Int), .string z] 135)) wr.heap.size #[.int .i64 (m : Int), .string z] 135 := Blk.new' rfl
      have cn := hBn.c; have ln := hBn.lt; have fn := hBn.f
      have HN := hidI (And.intro hput (hF'.setCell (p := ⟨b1, m, none⟩) (fun _ => .inr (.inl rfl)) (.string (tearD z y cut))))
      unfold tearD at HN
      have hmb' : decide ((m : Int) < (bs.length : Int)) = true := decide_eq_true (by omega)
      have HCUT := hidI hcut
      clear hD' hF' hput hat hBn hst hbw hy hsl hrk hz hm hin1 hcut
      by_cases hkk : k < ks.length
      · have hkk' : decide ((k : Int) < (ks.length : Int)) = true := decide_eq_true (by omega)
        obtain ⟨bk, ok, hAK, hcell⟩ := C_ints hK (by omega)
        have qk0 := hcell k hkk
        obtain ⟨kv, hkv2⟩ : ∃ kv, kv = ks[k] := ⟨_, rfl⟩
        rw [← hkv2] at qk0
        have qk := hI.out.2.cell (hK0 (by omega) bk ok hAK) qk0
        have hmin : min kv 64 = (cut : Int) := by
          have := hkv ks[k] (List.getElem_mem hkk)
          have e := HCUT.out
          unfold keepAt at e
          rw [if_pos hkk, List.getD_eq_getElem?_getD, List.getElem?_eq_getElem hkk, Option.getD_some] at e
          rw [hkv2]; omega
        have hkv3 : 0 ≤ kv ∧ kv ≤ 255 := by rw [hkv2]; exact hkv _ (List.getElem_mem hkk)
        subst hAK
        have qk' := pw_cell_below (below_new (Below.refl wr.heap.size wr) (.cells #[.int .i64 (m : Int), .string z] 135)) qk
        clear hkv2 hcell qk0
        as_aux_lemma =>
          go_wp2_with fail
          generalize wr.alloc (.cells #[.int .i64 (m : Int), .string z] 135) = wx at *
          go_region
          go_wp2_with fail
          go_roundw
          · exact ⟨k + 1, by omega, by simp, hidI ⟨⟨HN.out.1.blk.dr, HN.out.1.own.drew, HN.out.1.pend.drew⟩, HN.out.2.drew⟩⟩
          · simp [intOf]; omega
      · have hkk' : decide ((k : Int) < (ks.length : Int)) = false := decide_eq_false (by omega)
        obtain rfl : cut = 0 := by have := HCUT.out; unfold keepAt at this; rw [if_neg hkk] at this; exact this
        rw [show z.extract 0 0 ++ y.extract 0 64 = y.extract 0 64 by apply ByteArray.ext; simp] at HN
        as_aux_lemma =>
          go_wp2_with fail
          generalize wr.alloc (.cells #[.int .i64 (m : Int), .string z] 135) = wx at *
          go_region
          go_wp2_with fail
          go_roundw
          · exact ⟨k + 1, by omega, by simp, hidI ⟨⟨HN.out.1.blk.dr, HN.out.1.own.drew, HN.out.1.pend.drew⟩, HN.out.2.drew⟩⟩
          · simp [intOf]; omega
    · have hlt' : decide ((k : Int) < (ps.length : Int)) = false := decide_eq_false (by omega)
      have hD := hI.out.1
      rw [List.take_of_length_le (by omega)] at hD
      have hfin : Hid (MuP base d v1 (.slice A2 ps.length c2) (.returned (.tuple #[])) (rsS ⟨bs, ps, fuse, dead⟩ ks) w (.returned (.tuple #[])) (((wr.setCell ⟨d, 1, none⟩ (.slice none 0 0)).setCell ⟨d, 3, none⟩ (.bool false)).setCell ⟨d, 2, none⟩ (.int .i64 (-1)))) := hidI (by
        have h1 : Dt (wr.setCell ⟨d, 1, none⟩ (.slice none 0 0)) base d v1 (.slice none 0 0) (rsAll ks 0 bs ps) [] fuse dead := ⟨hD.blk.st 1 _, hD.own.far (p := ⟨d, 1, none⟩) (hD.own.ne hD.blk (by decide)) _, Go.Proofs.Kq.Own.nil _ _ _ _ _⟩
        refine ⟨rfl, .slice none 0 0, (h1.st.2 false).st.1 (-1), ((hI.out.2.setCell (fun _ => .inl rfl) _).setCell (fun _ => .inl rfl) _).setCell (fun _ => .inl rfl) _, ?_⟩
        rintro q (h | h | h)
        · exact .inl (.inl h)
        · exact .inl (.inr (.inl h))
        · cases h)
      have cd := hD.blk.c; have ld := hD.blk.lt; have fd := hD.blk.f
      clear hD
      go_wp2_with fail
      refine bodyPost_end (results_none rfl _ _ _) rfl ?_
      exact hfin.out
end Go.Proofs.Ytckfkbmefdmedaa
namespace Go.Proofs.Ytckfkbmefdmedaa
open Go.RowKit Go.Proofs.Kq
set_option linter.unusedVariables false
set_option linter.unusedSimpArgs false
structure Sim (s t : DkS) : Prop where
  bs : s.bs = t.bs
  ps : s.ps = t.ps
  dead : s.dead = t.dead
  fuse : s.fuse = t.fuse ∨ (s.fuse < 0 ∧ t.fuse < 0)
theorem Sim.refl (s : DkS) : Sim s s := ⟨rfl, rfl, rfl, .inl rfl⟩
end Go.Proofs.Ytckfkbmefdmedaa
namespace Go.Proofs.Ytckfkbmefdmedaa
open Go.RowKit Go.Proofs.Kq
open Go.Proofs.YtckfkbmefdmedaaW.PrintWords (pw_cell_below Kd Kd.C Kd.C_below encs)
set_option linter.unusedVariables false
set_option linter.unusedSimpArgs false
def rp (z : ByteArray) (m n : Nat) : List Value := List.replicate m (.string z) ++ List.replicate (n - m) (.string ⟨#[]⟩)
theorem rp_len (z : ByteArray) (m n : Nat) (h : m ≤ n) : (rp z m n).length = n := by simp [rp]; omega
theorem rp_zero (z : ByteArray) (n : Nat) : rp z 0 n = List.replicate n (.string ⟨#[]⟩) := by simp [rp]
theorem rp_full (z : ByteArray) (n : Nat) : rp z n n = List.replicate n (.string z) := by simp [rp]
theorem rp_splice (z : ByteArray) (m j n : Nat) (h : m + j ≤ n) : splice (rp z m n) m (List.replicate j (.string z)) = rp z (m + j) n := by
  unfold splice rp
  rw [List.take_left' (by simp), List.length_replicate, ← List.drop_drop, List.drop_left' (by simp), List.drop_replicate, ← List.append_assoc, List.replicate_append_replicate, Nat.sub_sub]
theorem made_strs (n : Nat) : madeCells (Value.string ⟨#[]⟩).cells (n * 1) = (List.replicate n (Value.string ⟨#[]⟩)).toArray := by
  apply Array.ext
  · rw [size_madeCells]; simp
  · intro i h1 h2
    rw [size_madeCells] at h1
    simp [madeCells, Value.cells, Nat.mod_one]
def RpP (z : ByteArray) (n : Nat) (w : World) (e : Ending) (w' : World) : Prop := ∃ v, e = .returned v ∧ Strs w' w.heap.size v (List.replicate n z) ∧ Below w.heap.size w w'
set_option maxHeartbeats 2000000 in
set_option maxRecDepth 100000 in
theorem repeat_any (z : ByteArray) (g n : Nat) (w : World) (h : Blk w g #[.string z] 9) (hn : n ≤ 1000000) :
    Calls Try.prog 77 #[.slice (some ⟨g, 0, none⟩) 1 1, .int .i64 n] w (RpP z n w) := by
  have hM : Calls Try.prog 70 #[.int .u64 1, .int .u64 n] w fun e w' => e = .returned (.tuple #[.int .u64 0, .int .u64 n]) ∧ w' = w := by
    have := Try.bits_Mul 1 n (by omega) (by omega) w
    rw [Nat.one_mul, Nat.div_eq_of_lt (by omega), Nat.mod_eq_of_lt (by omega)] at this
    exact this
  have c0 := h.c; have l0 := h.lt; have f0 := h.f
  have g1 : decide ((n : Int) < 0) = false := decide_eq_false (by omega)
  have g2 : decide ((9223372036854775807 : Int) < (n : Int)) = false := decide_eq_false (by omega)
  have HB := hidI h
  clear h
  go_enter Try.func77, Try.ntmps77
  go_wp2_with fail
  with_reducible refine hM.mono ?_
  rintro e w1 ⟨rfl, hw1⟩
  subst hw1
  clear hM
  simp only []
  obtain ⟨i0, hi0, hz0, hz1, hz2⟩ := info_parts info9s
  have hmk := run_make (P := Try.prog) w1 22 9 i0 (.string ⟨#[]⟩) Try.underlying22 hi0 hz0 .i64 .i64 n n (by omega) (by omega) (by rw [hz2]; omega) (by omega)
  rw [Int.toNat_natCast, hz1, made_strs, ← rp_zero z n] at hmk
  obtain ⟨m0, hm0⟩ : ∃ m0, m0 = min 1 n := ⟨_, rfl⟩
  have hm1 : m0 ≤ n := by omega
  have hm2 : 0 < n → 0 < m0 := by omega
  have hm3 : m0 = Nat.min 1 n := hm0
  have hm4 : m0 ≤ 1 := by omega
  clear hm0
  obtain ⟨cs, hcs⟩ : ∃ cs, cs = List.replicate m0 (Value.string z) := ⟨_, rfl⟩
  have hcl : cs.length = m0 := by rw [hcs]; simp
  have HCS := hidI hcs
  have HM3 := hidI hm3
  clear hcs hm3
  have hg0 : (w1.alloc (.cells (rp z 0 n).toArray 9)).heap[w1.heap.size]? = some (.cells (rp z 0 n).toArray 9 (0, 0)) := by show (w1.heap.push _)[w1.heap.size]? = _; simp
  have HG0 := hidI hg0
  clear hg0
  have hsz : (Try.prog.info? 9).map (·.size) = some 1 := by kernel_rfl
  have aP : 0 < cs.length → (some ⟨w1.heap.size, 0, none⟩ : Option Addr) = some ⟨w1.heap.size, 0, none⟩ ∧ ∃ ad, (some ⟨g, 0, none⟩ : Option Addr) = some ad ∧ ∀ j v, cs[j]? = some v → (w1.alloc (.cells (rp z 0 n).toArray 9)).cell? (ad.add j) = some v := by
    refine fun h => ⟨rfl, ⟨g, 0, none⟩, rfl, fun j v hj => ?_⟩
    rw [HCS.out, List.getElem?_replicate] at hj
    split at hj
    · cases hj
      obtain rfl : j = 0 := by omega
      have := Blk.c (HB.out.al (.cells (rp z 0 n).toArray 9)) 0
      simpa [Addr.add] using this
    · cases hj
  have aF : 0 + cs.length ≤ (rp z 0 n).length := by rw [rp_len z 0 n (Nat.zero_le _)]; omega
  have a1 : ∀ v ∈ cs, v.oneCell' = true := by intro v hv; rw [HCS.out] at hv; rw [List.eq_of_mem_replicate hv]; rfl
  go_wp2_with (refine wpList_copy_splice rfl (.tmp 31) (.tmp 32) 22 22 rfl 9 Try.underlying22 hsz (some ⟨w1.heap.size, 0, none⟩) (some ⟨g, 0, none⟩) n n 1 1 rfl rfl w1.heap.size 0 (rp z 0 n) 9 HG0.out cs (hcl.trans HM3.out) aP aF a1 w1.heap.size w1 (below_new (Below.refl _ _) _) (Nat.le_refl _) ?_; intro w4 hg4 hb4; rw [hcl])
  have hc4 : splice (rp z 0 n) 0 cs = rp z m0 n := by rw [HCS.out]; have := rp_splice z 0 m0 n (by omega); rwa [Nat.zero_add] at this
  have HW4 : Hid (w4.heap[w1.heap.size]? = some (.cells (rp z m0 n).toArray 9 (0, 0)) ∧ Below w1.heap.size w1 w4) := hidI ⟨by have := hg4.out; rwa [hc4] at this, hb4⟩
  clear hg4 hb4 hc4 aP aF a1 hcl HG0 HCS cs HM3 c0 l0 f0 HB hmk
  go_loopw [8] (fun i wr => ∃ m : Nat, m ≤ n ∧ (0 < n → 0 < m) ∧ i = .int .i64 m ∧ Hid (wr.heap[w1.heap.size]? = some (.cells (rp z m n).toArray 9 (0, 0)) ∧ Below w1.heap.size w1 wr)) (fun i _ => n - (intOf i).toNat)
  case atStart => exact ⟨m0, hm1, hm2, rfl, HW4⟩
  case round =>
    obtain ⟨m, hm, hmp, rfl, hI⟩ := hrel
    by_cases hlt : m < n
    · have hlt' : decide ((m : Int) < (n : Int)) = true := decide_eq_true (by omega)
      have hne : ¬ (n = m) := by omega
      have hle : (m : Int) ≤ (n : Int) := by omega
      obtain ⟨j, hj⟩ : ∃ j, j = Nat.min m (n - m) := ⟨_, rfl⟩
      have hj0 : 0 < j ∧ m + j ≤ n ∧ j ≤ m := by
        have e : Nat.min m (n - m) = min m (n - m) := rfl
        rw [e] at hj; omega
      obtain ⟨cs, hcs⟩ : ∃ cs, cs = List.replicate j (Value.string z) := ⟨_, rfl⟩
      have hcl : cs.length = j := by rw [hcs]; simp
      have aQ : ∀ q v, cs[q]? = some v → wr.drew.cell? ((⟨w1.heap.size, 0, none⟩ : Addr).add q) = some v := by
        intro q v hq
        rw [hcs, List.getElem?_replicate] at hq
        split at hq
        · cases hq
          have hh := hI.out.1
          rw [Kp.add_plain', Nat.zero_add]
          show wr.cell? _ = _
          simp only [World.cell?, hh, Option.isSome_none, Bool.false_eq_true, if_false]
          simp only [rp, List.getElem?_toArray]
          rw [List.getElem?_append_left (by simp; omega), List.getElem?_replicate, if_pos (by omega)]
        · cases hq
      have aF : m + cs.length ≤ (rp z m n).length := by rw [rp_len z m n hm]; omega
      have a1 : ∀ v ∈ cs, v.oneCell' = true := by intro v hv; rw [hcs] at hv; rw [List.eq_of_mem_replicate hv]; rfl
      have HCS := hidI hcs
      have HJ := hidI hj
      clear hcs hj
      have hgd : wr.drew.heap[w1.heap.size]? = some (.cells (rp z m n).toArray 9 (0, 0)) := hI.out.1
      have hbd : Below w1.heap.size w1 wr.drew := hI.out.2.drew
      have hcj : cs.length = Nat.min m (n - m) := hcl.trans HJ.out
      have HGD := hidI hgd
      have HAP := hidI aQ
      have HCJ := hidI hcj
      clear hgd aQ hcj
      go_wp2_with fail
      go_region_law (refine step_copy_splice rfl (.tmp 41) (.tmp 44) 22 22 rfl 9 Try.underlying22 hsz (some ⟨w1.heap.size, m, none⟩) (some ⟨w1.heap.size, 0, none⟩) (n - m) (n - m) m n (by simp [Act.eval, Act.put]) (by simp [Act.eval, Act.put]) w1.heap.size m (rp z m n) 9 HGD.out cs HCJ.out (fun _ => ⟨rfl, _, rfl, HAP.out⟩) aF a1 w1.heap.size w1 hbd (Nat.le_refl _) ?_; intro w5 hg5 hb5; rw [hcl])
      have hc5 : splice (rp z m n) m cs = rp z (m + j) n := by rw [HCS.out]; exact rp_splice z m j n hj0.2.1
      have HW5 : Hid (w5.heap[w1.heap.size]? = some (.cells (rp z (m + j) n).toArray 9 (0, 0)) ∧ Below w1.heap.size w1 w5) := hidI ⟨by have := hg5.out; rwa [hc5] at this, hb5⟩
      clear hc5 hg5 hb5
      simp only [Act.put, List.getElem_toArray, List.getElem_cons_succ, List.getElem_cons_zero, List.setIfInBounds_toArray, List.set_cons_zero, List.set_cons_succ]
      go_wp2_with fail
      have hwr : IntKind.i64.wrap ((m : Int) + (j : Int)) = ((m + j : Nat) : Int) := by
        rw [show IntKind.i64.wrap ((m : Int) + (j : Int)) = wrap64 ((m : Int) + (j : Int)) by unfold wrap64; exact IntKind.wrap_i64 _]; unfold wrap64; omega
      rw [hwr]
      go_roundw
      · exact ⟨m + j, by omega, by omega, rfl, HW5⟩
      · simp [intOf]; omega
    · have hlt' : decide ((m : Int) < (n : Int)) = false := decide_eq_false (by omega)
      obtain rfl : m = n := by omega
      have hfin : Hid (RpP z m w1 (.returned (.slice (some ⟨w1.heap.size, 0, none⟩) m m)) wr) := hidI (by
        refine ⟨_, rfl, ⟨by simp [sl], .inr ⟨w1.heap.size, m, _, by simp, Nat.le_refl _, hI.out.1, by simp, by simp only [maxLen]; omega, by simp [rp_len], ?_⟩⟩, hI.out.2⟩
        rw [rp_full]
        simp only [List.size_toArray, List.length_replicate, Nat.mul_one, List.toList_toArray, List.take_replicate, Nat.min_self]
        rw [strs_encs]; simp [encs])
      go_wp2_with fail
      go_ret
      exact hfin.out
end Go.Proofs.Ytckfkbmefdmedaa
namespace Go.Proofs.Ytckfkbmefdmedaa
open Go.RowKit Go.Proofs.Kq Go.Proofs.Ytckfkbmefdmedaa.Q
open Go.Proofs.YtckfkbmefdmedaaW.PrintWords (pw_cell_below Kd Kd.C Kd.C_below encs)
set_option linter.unusedVariables false
set_option linter.unusedSimpArgs false
def e64 : ByteArray := ⟨(Lib.repeatL [0] 64).toArray⟩
theorem e64_size : e64.size = 64 := by
  unfold e64; show (List.toArray _).size = 64; rw [List.size_toArray, Lib.repeatL_length]; rfl
theorem rep_e64 : strings_Repeat.f ⟨#[0]⟩ 64 = some e64 := by
  unfold strings_Repeat.f
  rw [if_pos ⟨by omega, by omega, by show 1 * _ ≤ _; omega⟩]
  have e1 : (64 : Int).toNat = 64 := rfl
  have e2 : (⟨#[0]⟩ : ByteArray).data.toList = [0] := rfl
  rw [e1, e2]; unfold e64; rfl
def EmP (w : World) (e : Ending) (w' : World) : Prop := e = .returned (.string e64) ∧ Below w.heap.size w w'
theorem empty_any (w : World) : Calls Try.prog 32 #[] w (EmP w) := by
  have hr := strings_Repeat.calls ⟨#[0]⟩ 64 e64 w rep_e64
  go_enter Try.func32, Try.ntmps32
  go_wp2_with fail
  with_reducible refine hr.mono ?_
  rintro e w1 ⟨rfl, hb⟩
  have hfin : Hid (EmP w (.returned (.string e64)) w1) := hidI ⟨rfl, hb⟩
  clear hr hb
  simp only []
  go_wp2_with fail
  go_ret
  exact hfin.out
def NwP (n : Nat) (w : World) (e : Ending) (w' : World) : Prop := ∃ d v1, e = .returned (.pointer (some ⟨d, 0, none⟩)) ∧ DT w' w.heap.size d v1 (.slice none 0 0) ⟨List.replicate n e64, [], -1, false⟩ ∧ w.heap.size ≤ d ∧ Below w.heap.size w w'
set_option maxRecDepth 100000 in
theorem new_any (n : Nat) (w : World) (hn : n ≤ 65536) : Calls Try.prog 23 #[.int .i64 n] w (NwP n w) := by
  have g1 : decide ((n : Int) < 0) = false := decide_eq_false (by omega)
  have g2 : decide ((65536 : Int) < (n : Int)) = false := decide_eq_false (by omega)
  go_enter Try.func23, Try.ntmps23
  go_wp2_with fail
  with_reducible refine (empty_any w).mono ?_
  rintro e w1 ⟨rfl, hb1⟩
  have HB1 := hidI hb1
  clear hb1
  simp only []
  go_wp2_with fail
  have hrep := repeat_any e64 w1.heap.size n (w1.alloc (.cells #[.string e64] 9)) (Blk.new' rfl) (by omega)
  with_reducible refine hrep.mono ?_
  rintro e w2 ⟨v, rfl, hO, hb2⟩
  simp only []
  have hb2' : Below w.heap.size w w2 := below_step (below_new HB1.out _) hb2
  have hO' : Strs w2 w.heap.size v (List.replicate n e64) := hO.lower (below_new HB1.out _).size
  have hfin : Hid (NwP n w (.returned (.pointer (some ⟨w2.heap.size, 0, none⟩))) (w2.alloc (.cells #[v, .slice none 0 0, .int .i64 (-1), .bool false] 132))) := hidI
    ⟨w2.heap.size, v, rfl, ⟨Blk.new' rfl, hO'.alloc _, Go.Proofs.Kq.Own.nil _ _ _ _ _⟩, hb2'.size, below_new hb2' _⟩
  obtain ⟨A, c, rfl, _⟩ := hO.slice_
  clear hO hO' hb2 hb2' hrep
  rw [List.length_replicate] at hfin
  go_wp2_with fail
  go_ret
  exact hfin.out
end Go.Proofs.Ytckfkbmefdmedaa
namespace Go.Proofs.Ytckfkbmefdmedaa
open Go.RowKit Go.Proofs.Kq Go.Proofs.Ytckfkbmefdmedaa.Q
open Go.Proofs.YtckfkbmefdmedaaW.PrintWords (pw_cell_below Kd Kd.C Kd.C_below Kd.R_of_own Kd.R_reads encs)
set_option linter.unusedVariables false
set_option linter.unusedSimpArgs false
theorem DS_lt {w : World} {base d : Nat} {v1 v2 : Value} {s : DkS} (h : DT w base d v1 v2 s) {k : Nat} (hk : DS d v1 v2 k) : k < w.heap.size := by
  rcases hk with rfl | hk | hk
  · exact h.blk.lt
  · exact h.own.lt hk
  · exact h.pend.lt hk
end Go.Proofs.Ytckfkbmefdmedaa
namespace Go.Proofs.Ytckfkbmefdmedaa
open Go.RowKit Go.Proofs.Kq Go.Proofs.Ytckfkbmefdmedaa.Q
open Go.Proofs.YtckfkbmefdmedaaW.PrintWords (pw_cell_below Kd Kd.C Kd.C_below)
set_option linter.unusedVariables false
set_option linter.unusedSimpArgs false
theorem Fr.toB {S : Nat → Prop} {w w1 : World} {B : Nat} (h : Fr S w w1) (hS : ∀ k, S k → B ≤ k) (hB : B ≤ w.heap.size) : Below B w w1 :=
  ⟨h.os, h.tape, h.output, h.size, fun k hk => h.block k (by omega) (fun s => by have := hS k s; omega)⟩
theorem DS_ge {w : World} {base d : Nat} {v1 v2 : Value} {s : DkS} (h : DT w base d v1 v2 s) (hd : base ≤ d) {k : Nat} (hk : DS d v1 v2 k) : base ≤ k := by
  rcases hk with rfl | hk | hk
  · exact hd
  · exact h.own.ge hk
  · exact h.pend.ge hk
end Go.Proofs.Ytckfkbmefdmedaa
namespace Go.Proofs.Ytckfkbmefdmedaa
open Go.RowKit Go.Proofs.Kq
set_option linter.unusedVariables false
set_option linter.unusedSimpArgs false
theorem setAll_64 : ∀ (l : List Wr) (bs : List ByteArray), All64 bs → Wr64 l → All64 (setAll bs l)
  | [], bs, h, _ => h
  | p :: l, bs, h, hw => setAll_64 l _ (all64_set h _ (hw p (by simp))) (fun q hq => hw q (by simp [hq]))
end Go.Proofs.Ytckfkbmefdmedaa
namespace Go.Proofs.Ytckfkbmefdmedaa
open Go.RowKit Go.Proofs.Kq
set_option linter.unusedVariables false
set_option linter.unusedSimpArgs false
structure Good (n m : Nat) (s : DkS) : Prop where
  len : s.bs.length = n
  b64 : All64 s.bs
  w64 : Wr64 s.ps
  ins : inB n s.ps
  few : s.ps.length ≤ m
  fuse : -9223372036854775808 ≤ s.fuse ∧ s.fuse ≤ 9223372036854775807
theorem thN_in {f : Int} (h : -9223372036854775808 ≤ f ∧ f ≤ 9223372036854775807) : -9223372036854775808 ≤ thN f ∧ thN f ≤ 9223372036854775807 := by
  unfold thN; split <;> omega
theorem us_in {n : Nat} {dead : Bool} {at_ : Int} (h : usF n dead at_ = 0) : dead = false ∧ 0 ≤ at_ ∧ at_ < n := by
  unfold usF at h
  cases dead
  · refine ⟨rfl, ?_⟩
    rw [if_neg (by decide)] at h
    split at h <;> omega
  · rw [if_pos rfl] at h; omega
theorem wrS_good {n m : Nat} {s : DkS} (h : Good n m s) (at_ : Int) (x : ByteArray) : Good n (m + 1) (wrS s at_ x).2 := by
  have hm : Good n (m + 1) s := ⟨h.len, h.b64, h.w64, h.ins, Nat.le_succ_of_le h.few, h.fuse⟩
  unfold wrS
  split
  · rename_i hu
    split
    · rename_i hx
      obtain ⟨_, h1, h2⟩ := us_in hu
      rw [h.len] at h2
      refine ⟨h.len, h.b64, ?_, ?_, ?_, thN_in h.fuse⟩
      · intro p hp
        rcases List.mem_append.1 hp with h3 | h3
        · exact h.w64 p h3
        · rcases List.mem_singleton.1 h3 with rfl; exact hx
      · intro p hp
        rcases List.mem_append.1 hp with h3 | h3
        · exact h.ins p h3
        · rcases List.mem_singleton.1 h3 with rfl; exact ⟨h1, h2⟩
      · show (s.ps ++ [_]).length ≤ m + 1
        have := h.few
        simp; omega
    · exact hm
  · exact hm
theorem syS_good {n m : Nat} {s : DkS} (h : Good n m s) : Good n m (syS s).2 := by
  unfold syS
  split
  · exact h
  · split
    · exact ⟨by show (setAll s.bs s.ps).length = n; rw [setAll_len, h.len], setAll_64 _ _ h.b64 h.w64, fun p hp => by simp at hp, fun p hp => by simp at hp, Nat.zero_le _, thN_in h.fuse⟩
    · exact ⟨h.len, h.b64, h.w64, h.ins, h.few, thN_in h.fuse⟩
end Go.Proofs.Ytckfkbmefdmedaa
namespace Go.Proofs.Ytckfkbmefdmedaa
open Go.RowKit Go.Proofs.Kq Go.Proofs.Ytckfkbmefdmedaa.Q
set_option linter.unusedVariables false
set_option linter.unusedSimpArgs false
def Recs (l : List ByteArray) : List ByteArray → Nat → Nat → Nat → Prop
  | [], _, a, b => a = b
  | p :: ps, num, a, b => ∃ n, Rec (num : Int) (l.drop a) p n ∧ Recs l ps (num + 1) (a + n) b
def RecsEnd (l : List ByteArray) (ps : List ByteArray) (num a b : Nat) : Prop := Recs l ps num a b ∧ ∀ p n, ¬ Rec ((num + ps.length : Nat) : Int) (l.drop b) p n
theorem Recs.le {l : List ByteArray} : ∀ {ps : List ByteArray} {num a b : Nat}, Recs l ps num a b → a ≤ l.length → a + ps.length ≤ b ∧ b ≤ l.length
  | [], num, a, b, h, ha => by obtain rfl : a = b := h; simp; exact ha
  | p :: ps, num, a, b, ⟨n, hR, h⟩, ha => by
    have h1 := hR.1
    have h2 := hR.2.2.1
    rw [List.length_drop] at h2
    have := Recs.le h (by omega)
    simp; omega
theorem rec_take {number : Int} {l : List ByteArray} {p : ByteArray} {n m : Nat} (hm : 255 ≤ m) : Rec number (l.take m) p n ↔ Rec number l p n := by
  unfold Rec
  constructor
  · rintro ⟨h1, h2, h3, h4, h5⟩
    rw [List.length_take] at h3
    rw [List.take_take, Nat.min_eq_left (by omega)] at h5
    exact ⟨h1, h2, by omega, h4, h5⟩
  · rintro ⟨h1, h2, h3, h4, h5⟩
    refine ⟨h1, h2, by rw [List.length_take]; omega, h4, ?_⟩
    rw [List.take_take, Nat.min_eq_left (by omega)]; exact h5
theorem unpack_f (number : Nat) (l : List ByteArray) (hn : number < 4294967295) (hl : 0 < l.length) (hl2 : l.length ≤ 10000000000000) : block_Unpack.f (number : Int) l = some (unpF (number : Int) l l.length 0 []) := by
  unfold block_Unpack.f unpackF
  rw [if_pos hl2, if_neg (by omega), if_neg (by omega)]
theorem jrec_loop (l : List ByteArray) (hl : l.length ≤ 1000000) : ∀ (ps : List ByteArray) (num a b : Nat) (acc : List ByteArray), acc.length = num → num + l.length - a ≤ 1000000 → a ≤ l.length → RecsEnd l ps num a b → num ≤ a → EvT (fun k => journal_Records.l0 k l acc (a : Int)) (acc ++ ps, (b : Int))
  | ps, num, a, b, acc, hacc, hnum, ha, h, hna => by
    have ew : wrap64 ((a : Int) + 255) = ((a + 255 : Nat) : Int) := by unfold wrap64; omega
    by_cases hal : a < l.length
    · -- what Unpack tells here
      have hu : ∃ z : List ByteArray, z.length ≤ l.length ∧ 0 < z.length ∧ (∀ q n, Rec (num : Int) z q n ↔ Rec (num : Int) (l.drop a) q n) ∧
          (∀ k, journal_Records.l0 (k + 1) l acc (a : Int) = (block_Unpack.f (acc.length : Int) z).bind fun bt => if bt.2.2 = 0 then (if acc.length < 8796093022208 then (journal_Records.l0 k l (acc ++ [bt.1]) (wrap64 ((a : Int) + bt.2.1))) else none) else some (acc, (a : Int))) := by
        by_cases h5 : a + 255 < l.length
        · refine ⟨(l.take (a + 255)).drop a, by simp; omega, by simp; omega, fun q n => ?_, fun k => ?_⟩
          · rw [List.drop_take, show a + 255 - a = 255 by omega]; exact rec_take (Nat.le_refl _)
          · rw [journal_Records.l0, if_pos (by omega), ew, if_pos (by omega), if_pos (by omega), if_pos (by omega), if_pos (by omega)]
            simp only [Int.toNat_natCast]
        · refine ⟨l.drop a, by simp, by simp; omega, fun q n => Iff.rfl, fun k => ?_⟩
          rw [journal_Records.l0, if_pos (by omega), ew, if_neg (by omega), if_pos (by omega), if_pos (by omega), if_pos (by omega)]
          simp only [Int.toNat_natCast, List.take_length]
      obtain ⟨z, hz1, hz2, hz3, hz4⟩ := hu
      have hf := unpack_f num z (by omega) hz2 (by omega)
      rw [← hacc] at hf
      match ps, h with
      | [], h =>
        obtain ⟨h1, h2⟩ := h
        have h1 : a = b := h1
        subst h1
        have hno := unp_none (num : Int) z (fun q n hR => h2 q n ((hz3 q n).1 hR))
        refine EvT.done (fun k => ?_)
        rw [hz4, hf, Option.bind_some]
        rw [hacc, hno]
        unfold badU
        rw [if_neg (by decide), List.append_nil]
      | p :: ps, ⟨⟨n, hR, h1⟩, h2⟩ =>
        have hn1 := hR.1
        have hn2 := hR.2.2.1
        rw [List.length_drop] at hn2
        have hok := unp_ok ((hz3 p n).2 hR)
        rw [List.length_cons, show num + (ps.length + 1) = num + 1 + ps.length by omega] at h2
        have ih := jrec_loop l hl ps (num + 1) (a + n) b (acc ++ [p]) (by simp; omega) (by omega) (by omega) ⟨h1, h2⟩ (by omega)
        rw [List.append_assoc] at ih
        refine EvT.step (fun k => ?_) ih
        rw [hz4, hf, Option.bind_some]
        rw [hacc, hok, if_pos rfl, if_pos (by omega)]
        show journal_Records.l0 k l (acc ++ [p]) (wrap64 ((a : Int) + (n : Int))) = _
        rw [show wrap64 ((a : Int) + (n : Int)) = ((a + n : Nat) : Int) by unfold wrap64; omega]
    · match ps, h with
      | [], h =>
        have h1 : a = b := h.1
        subst h1
        refine EvT.done (fun k => ?_)
        rw [journal_Records.l0, if_neg (by omega), List.append_nil]
      | p :: ps, ⟨⟨n, hR, h1⟩, h2⟩ =>
        have hn1 := hR.1
        have hn2 := hR.2.2.1
        rw [List.length_drop] at hn2
        omega
  termination_by ps => ps.length
theorem jrec_ok {l ps : List ByteArray} {b : Nat} (hl : l.length ≤ 1000000) (h : RecsEnd l ps 0 0 b) : EvT (fun k => journal_Records.f k l) (ps, (b : Int)) :=
  jrec_loop l hl ps 0 0 b [] rfl (by omega) (Nat.zero_le _) h (Nat.le_refl _)
theorem rec_of_take {number : Int} {l l' : List ByteArray} {p : ByteArray} {n : Nat} (h : Rec number l p n) (he : l'.take n = l.take n) : Rec number l' p n := by
  obtain ⟨h1, h2, h3, h4, h5⟩ := h
  refine ⟨h1, h2, ?_, h4, by rw [he]; exact h5⟩
  have := congrArg List.length he
  rw [List.length_take, List.length_take] at this
  omega
theorem Recs.keep {l l' : List ByteArray} : ∀ {ps : List ByteArray} {num a b : Nat}, Recs l ps num a b → a ≤ l.length → l'.take b = l.take b → Recs l' ps num a b
  | [], num, a, b, h, ha, he => h
  | p :: ps, num, a, b, ⟨n, hR, h⟩, ha, he => by
    have h1 := hR.1
    have h2 := hR.2.2.1
    rw [List.length_drop] at h2
    have hb := Recs.le h (by omega)
    refine ⟨n, rec_of_take hR ?_, Recs.keep h (by omega) he⟩
    have e1 : ∀ m : List ByteArray, (m.drop a).take n = ((m.take b).drop a).take n := fun m => by
      rw [List.drop_take, List.take_take, Nat.min_eq_left (by omega)]
    rw [e1 l', e1 l, he]
theorem Recs.snoc {l : List ByteArray} {p : ByteArray} {n : Nat} : ∀ {ps : List ByteArray} {num a b : Nat}, Recs l ps num a b → Rec ((num + ps.length : Nat) : Int) (l.drop b) p n → Recs l (ps ++ [p]) num a (b + n)
  | [], num, a, b, h, hR => by
    have h : a = b := h
    subst h
    exact ⟨n, by simpa using hR, rfl⟩
  | q :: ps, num, a, b, ⟨m, hm, h⟩, hR => by
    refine ⟨m, hm, Recs.snoc h ?_⟩
    rw [List.length_cons, show num + (ps.length + 1) = num + 1 + ps.length by omega] at hR
    exact hR
theorem rec_zero (number : Nat) (hn : number < 4294967295) (l : List ByteArray) (h : ∀ h0 : 0 < l.length, l[0] = e64) : ∀ p n, ¬ Rec (number : Int) l p n := by
  intro p n hR
  have h0 : 0 < l.length := by have := hR.1; have := hR.2.2.1; omega
  have e := hR.at_ 0 hR.1 h0
  rw [h h0] at e
  have e2 := one_tail (number : Int) (0 : Nat) n (chunk (bl p) 0) (chunk_le _ _)
  rw [← e] at e2
  exact (far_zero (number : Int) (by omega) (by omega)).2 e2
structure Jn (bs R : List ByteArray) (at_ : Nat) : Prop where
  recs : Recs bs R 0 0 at_
  zero : ∀ i (h : i < bs.length), at_ ≤ i → bs[i] = e64
theorem Jn.le {bs R : List ByteArray} {at_ : Nat} (h : Jn bs R at_) : R.length ≤ at_ ∧ at_ ≤ bs.length := by have := h.recs.le (Nat.zero_le _); omega
theorem Jn.end_ {bs R : List ByteArray} {at_ : Nat} (h : Jn bs R at_) (hl : bs.length ≤ 1000000) : RecsEnd bs R 0 0 at_ := by
  have := h.le
  refine ⟨h.recs, rec_zero _ (by omega) _ (fun h0 => ?_)⟩
  rw [List.getElem_drop]
  exact h.zero _ _ (by omega)
theorem jn_new (n : Nat) : Jn (List.replicate n e64) [] 0 := ⟨rfl, fun i h _ => by simp⟩
end Go.Proofs.Ytckfkbmefdmedaa
namespace Go.Proofs.Ytckfkbmefdmedaa
open Go.RowKit Go.Proofs.Kq Go.Proofs.Ytckfkbmefdmedaa.Q
set_option linter.unusedVariables false
set_option linter.unusedSimpArgs false
def wrL (s : DkS) : Nat → List ByteArray → Int × DkS
  | _, [] => (0, s)
  | a, x :: l => if (wrS s a x).1 = 0 then wrL (wrS s a x).2 (a + 1) l else wrS s a x
def apF (s : DkS) (at_ cnt : Nat) (p : ByteArray) : Int × DkS :=
  if s.dead = true then (7, s)
  else if (packF cnt (bl p)).2 = 0 then
    (if s.bs.length < at_ + (packF cnt (bl p)).1.length then (6, s)
     else if (wrL s at_ (packF cnt (bl p)).1).1 = 0 then syS (wrL s at_ (packF cnt (bl p)).1).2 else wrL s at_ (packF cnt (bl p)).1)
  else (1, s)
def erL (s : DkS) : Nat → Bool → List ByteArray → Int × DkS
  | _, b, [] => if b = true then syS s else (0, s)
  | i, b, x :: l => if x = e64 then erL s (i + 1) b l else if (wrS s i e64).1 = 0 then erL (wrS s i e64).2 (i + 1) true l else wrS s i e64
theorem wrL_good {n : Nat} : ∀ (l : List ByteArray) (m : Nat) (s : DkS) (a : Nat), Good n m s → Good n (m + l.length) (wrL s a l).2
  | [], m, s, a, h => h
  | x :: l, m, s, a, h => by
    have h1 := wrS_good h a x
    unfold wrL
    split
    · have := wrL_good l (m + 1) _ (a + 1) h1
      rw [List.length_cons, show m + (l.length + 1) = m + 1 + l.length by omega]; exact this
    · exact ⟨h1.len, h1.b64, h1.w64, h1.ins, by have := h1.few; simp; omega, h1.fuse⟩
theorem Good.mono {n m m' : Nat} {s : DkS} (h : Good n m s) (hm : m ≤ m') : Good n m' s := ⟨h.len, h.b64, h.w64, h.ins, Nat.le_trans h.few hm, h.fuse⟩
theorem erL_good {n : Nat} : ∀ (l : List ByteArray) (m : Nat) (s : DkS) (i : Nat) (b : Bool), Good n m s → Good n (m + l.length) (erL s i b l).2
  | [], m, s, i, b, h => by
    unfold erL
    split
    · exact syS_good h
    · exact h
  | x :: l, m, s, i, b, h => by
    unfold erL
    split
    · exact (erL_good l m s (i + 1) b h).mono (by simp)
    · have h1 := wrS_good h i e64
      split
      · exact (erL_good l (m + 1) _ (i + 1) true h1).mono (by simp; omega)
      · exact h1.mono (by simp)
theorem apF_good {n m : Nat} {s : DkS} (h : Good n m s) (at_ cnt : Nat) (p : ByteArray) : Good n (m + (packF cnt (bl p)).1.length) (apF s at_ cnt p).2 := by
  have h0 : Good n (m + (packF cnt (bl p)).1.length) s := h.mono (by omega)
  have h1 := wrL_good (packF cnt (bl p)).1 m s at_ h
  unfold apF
  split
  · exact h0
  · split
    · split
      · exact h0
      · split
        · exact syS_good h1
        · exact h1
    · exact h0
theorem blkR_size (n : Int) (L : List UInt8) (c : Nat) : ∀ r i, ∀ x ∈ blkR n L c i r, x.size = 64
  | 0, i, x, h => by simp [blkR] at h
  | r + 1, i, x, h => by
    simp only [blkR, List.mem_cons] at h
    rcases h with rfl | h
    · exact one_size _ _ _ _ (chunk_le _ _)
    · exact blkR_size n L c r (i + 1) x h
theorem packF_size {n : Int} {L : List UInt8} : ∀ x ∈ (packF n L).1, x.size = 64 := by
  unfold packF
  split
  · intro x h; simp at h
  · exact blkR_size _ _ _ _ _
theorem packF_len {n : Int} {L : List UInt8} : (packF n L).1.length ≤ 255 := by
  unfold packF
  split
  · simp
  · rw [blkR_len]; omega
theorem wrS_ok (bs : List ByteArray) (ps : List Wr) (f : Int) (a : Nat) (x : ByteArray) (ha : a < bs.length) (hx : x.size = 64) : wrS ⟨bs, ps, f, false⟩ (a : Int) x = (if f = 0 then 7 else 0, ⟨bs, ps ++ [⟨a, x⟩], thN f, decide (f = 0)⟩) := by
  have hu : usF bs.length false (a : Int) = 0 := by
    unfold usF; rw [if_neg (by decide), if_neg (by omega)]
  unfold wrS
  rw [if_pos hu, if_pos hx]
  by_cases h : f = 0
  · subst h; rfl
  · simp [thF, h]
def wsL : Nat → List ByteArray → List Wr
  | _, [] => []
  | a, x :: l => ⟨(a : Int), x⟩ :: wsL (a + 1) l
theorem wrL_ok (bs : List ByteArray) (f : Int) (hf : f < 0) : ∀ (l : List ByteArray) (a : Nat) (ps : List Wr), a + l.length ≤ bs.length → (∀ x ∈ l, x.size = 64) → wrL ⟨bs, ps, f, false⟩ a l = (0, ⟨bs, ps ++ wsL a l, f, false⟩)
  | [], a, ps, h, hx => by simp [wrL, wsL]
  | x :: l, a, ps, h, hx => by
    rw [List.length_cons] at h
    have e := wrS_ok bs ps f a x (by omega) (hx x (by simp))
    have hn : thN f = f := by unfold thN; rw [if_neg (by omega)]
    rw [if_neg (by omega), hn, decide_eq_false (by omega)] at e
    unfold wrL
    rw [e, if_pos rfl]
    have := wrL_ok bs f hf l (a + 1) (ps ++ [⟨a, x⟩]) (by omega) (fun y hy => hx y (by simp [hy]))
    rw [this, wsL, List.append_assoc]; rfl
theorem syS_ok (bs : List ByteArray) (ps : List Wr) (f : Int) (hf : f < 0) : syS ⟨bs, ps, f, false⟩ = (0, ⟨setAll bs ps, [], f, false⟩) := by
  have hn : thN f = f := by unfold thN; rw [if_neg (by omega)]
  have h0 : f ≠ 0 := by omega
  unfold syS
  simp [thF, h0, hn]
theorem setAll_wsL : ∀ (l : List ByteArray) (a : Nat) (bs : List ByteArray), a + l.length ≤ bs.length → setAll bs (wsL a l) = bs.take a ++ l ++ bs.drop (a + l.length)
  | [], a, bs, h => by simp [wsL, setAll]
  | x :: l, a, bs, h => by
    rw [List.length_cons] at h
    have ih := setAll_wsL l (a + 1) (bs.set a x) (by rw [List.length_set]; omega)
    have e : setAll bs (wsL a (x :: l)) = setAll (bs.set a x) (wsL (a + 1) l) := by
      show setAll (bs.set ((a : Int)).toNat x) _ = _
      rw [Int.toNat_natCast]
    rw [e, ih, List.length_cons]
    have e1 : (bs.set a x).take (a + 1) = bs.take a ++ [x] := by
      rw [List.take_succ_eq_append_getElem (by rw [List.length_set]; omega), List.getElem_set_self, List.take_set_of_le (Nat.le_refl _)]
    have e2 : (bs.set a x).drop (a + 1 + l.length) = bs.drop (a + (l.length + 1)) := by
      rw [List.drop_set_of_lt (by omega), show a + 1 + l.length = a + (l.length + 1) by omega]
    rw [e1, e2]; simp
theorem Jn.more {bs R : List ByteArray} {at_ : Nat} (h : Jn bs R at_) (p : ByteArray) (l : List ByteArray) (hl : packF (R.length : Int) (bl p) = (l, 0)) (hn : at_ + l.length ≤ bs.length) : Jn (bs.take at_ ++ l ++ bs.drop (at_ + l.length)) (R ++ [p]) (at_ + l.length) := by
  have hle := h.le
  have hta : (bs.take at_ ++ l ++ bs.drop (at_ + l.length)).take at_ = bs.take at_ := by
    rw [List.append_assoc, List.take_append_of_le_length (by rw [List.length_take]; omega), List.take_take, Nat.min_self]
  have hda : (bs.take at_ ++ l ++ bs.drop (at_ + l.length)).drop at_ = l ++ bs.drop (at_ + l.length) := by
    rw [List.append_assoc, List.drop_append_of_le_length (by rw [List.length_take]; omega), List.drop_eq_nil_of_le (by rw [List.length_take]; omega), List.nil_append]
  refine ⟨Recs.snoc (h.recs.keep (Nat.zero_le _) hta) ?_, fun i hi hai => ?_⟩
  · rw [hda, Nat.zero_add]
    unfold packF at hl
    split at hl
    · simp at hl
    · injection hl with h1 _
      rw [← h1]
      rw [blkR_len]
      exact packs_rec (R.length : Int) p _ rfl (by omega) (by omega) _
  · simp only [List.length_append, List.length_take, List.length_drop] at hi
    rw [List.getElem_append_right (by simp; omega), List.getElem_drop]
    refine h.zero _ _ (by simp; omega)
theorem apF_ok {bs R : List ByteArray} {at_ : Nat} (h : Jn bs R at_) (f : Int) (hf : f < 0) (p : ByteArray) :
    apF ⟨bs, [], f, false⟩ at_ R.length p = if (packF (R.length : Int) (bl p)).2 = 0 then (if bs.length < at_ + (packF (R.length : Int) (bl p)).1.length then (6, ⟨bs, [], f, false⟩) else (0, ⟨bs.take at_ ++ (packF (R.length : Int) (bl p)).1 ++ bs.drop (at_ + (packF (R.length : Int) (bl p)).1.length), [], f, false⟩)) else (1, ⟨bs, [], f, false⟩) := by
  unfold apF
  rw [if_neg (show ¬ (false = true) by decide)]
  split
  · split
    · rfl
    · rename_i h1 h2
      have h3 : at_ + (packF (R.length : Int) (bl p)).1.length ≤ bs.length := by
        have : ¬ bs.length < at_ + (packF (R.length : Int) (bl p)).1.length := h2
        omega
      have e := wrL_ok bs f hf (packF (R.length : Int) (bl p)).1 at_ [] h3 packF_size
      rw [e, if_pos rfl, List.nil_append, syS_ok _ _ _ hf, setAll_wsL _ _ _ h3]
  · rfl
theorem erL_ok (f : Int) (hf : f < 0) : ∀ (l : List ByteArray) (bs : List ByteArray) (ps : List Wr) (i : Nat) (b : Bool), (b = false → ps = []) → i + l.length = bs.length → (setAll bs ps).drop i = l → (∀ p ∈ ps, 0 ≤ p.at_ ∧ p.at_ < i) →
    erL ⟨bs, ps, f, false⟩ i b l = (0, ⟨(setAll bs ps).take i ++ List.replicate l.length e64, [], f, false⟩)
  | [], bs, ps, i, b, hb, hi, hd, hp => by
    unfold erL
    have e0 : (setAll bs ps).take i = setAll bs ps := List.take_of_length_le (by rw [setAll_len]; simp at hi; omega)
    cases b
    · have := hb rfl
      subst this
      rw [if_neg (by decide), e0]; simp [setAll]
    · rw [if_pos rfl, syS_ok _ _ _ hf, e0]; simp
  | x :: l, bs, ps, i, b, hb, hi, hd, hp => by
    rw [List.length_cons] at hi
    have hil : i < (setAll bs ps).length := by rw [setAll_len]; omega
    have hx : (setAll bs ps)[i] = x := by
      have := congrArg (fun l => l[0]?) hd
      simp only [List.getElem?_drop, List.getElem?_cons_zero, Nat.add_zero, List.getElem?_eq_getElem hil] at this
      exact Option.some.inj this
    have hdl : (setAll bs ps).drop (i + 1) = l := by
      have := congrArg (List.drop 1) hd
      rw [List.drop_drop] at this
      simpa using this
    unfold erL
    split
    · rename_i h0
      rw [erL_ok f hf l bs ps (i + 1) b hb (by omega) hdl (fun p hp' => by have := hp p hp'; omega)]
      rw [List.take_succ_eq_append_getElem hil, hx, h0, List.length_cons, List.replicate_succ, List.append_assoc]; rfl
    · have e := wrS_ok bs ps f i e64 (by omega) e64_size
      have hn : thN f = f := by unfold thN; rw [if_neg (by omega)]
      rw [if_neg (by omega), hn, decide_eq_false (by omega)] at e
      rw [e, if_pos rfl]
      show erL ⟨bs, ps ++ [⟨i, e64⟩], f, false⟩ (i + 1) true l = _
      have es : setAll bs (ps ++ [(⟨(i : Int), e64⟩ : Wr)]) = (setAll bs ps).set i e64 := by rw [setAll_snoc]; simp
      rw [erL_ok f hf l bs (ps ++ [(⟨(i : Int), e64⟩ : Wr)]) (i + 1) true (fun h => by cases h) (by omega) (by rw [es, List.drop_set_of_lt (by omega)]; exact hdl) (fun p hp' => by
        rcases List.mem_append.1 hp' with h1 | h1
        · have := hp p h1; omega
        · rcases List.mem_singleton.1 h1 with rfl; exact ⟨by show 0 ≤ (i : Int); omega, by show (i : Int) < ((i + 1 : Nat) : Int); omega⟩)]
      rw [es, List.take_succ_eq_append_getElem (by rw [List.length_set]; exact hil), List.getElem_set_self, List.take_set_of_le (Nat.le_refl _), List.length_cons, List.replicate_succ, List.append_assoc]; rfl
theorem erL_new (f : Int) (hf : f < 0) (bs : List ByteArray) (a : Nat) (ha : a ≤ bs.length) : erL ⟨bs, [], f, false⟩ a false (bs.drop a) = (0, ⟨bs.take a ++ List.replicate (bs.length - a) e64, [], f, false⟩) := by
  rw [erL_ok f hf (bs.drop a) bs [] a false (fun _ => rfl) (by rw [List.length_drop]; omega) rfl (fun p hp => by simp at hp), List.length_drop]; rfl
theorem erL_same (s : DkS) : ∀ (l : List ByteArray) (i : Nat), (∀ x ∈ l, x = e64) → erL s i false l = (0, s)
  | [], i, h => rfl
  | x :: l, i, h => by
    unfold erL
    rw [if_pos (h x (by simp))]
    exact erL_same s l (i + 1) (fun y hy => h y (by simp [hy]))
theorem jn_cut {bs R : List ByteArray} {a : Nat} (h : Recs bs R 0 0 a) (ha : a ≤ bs.length) : Jn (bs.take a ++ List.replicate (bs.length - a) e64) R a := by
  refine ⟨h.keep (Nat.zero_le _) (by rw [List.take_append_of_le_length (by rw [List.length_take]; omega), List.take_take, Nat.min_self]), fun i hi hai => ?_⟩
  rw [List.getElem_append_right (by rw [List.length_take]; omega)]
  simp
end Go.Proofs.Ytckfkbmefdmedaa
namespace Go.Proofs.Ytckfkbmefdmedaa.Q
open Go.RowKit Go.Proofs.YtckfkbmefdmedaaW.PrintWords Go.Proofs.YtckfkbmefdmedaaW.PrintLast Go.Proofs.YtckfkbmefdmedaaW.PrintMore
attribute [local go_sem] max2_int min2_int max_two min_two max_three min_three max_four min_four   -- for this text's walks alone
set_option linter.unusedVariables false
set_option linter.unusedSimpArgs false
def slices_Equal_string_string.l0 : Nat → List ByteArray → List ByteArray → Int → Int → Option (Bool)
 | 0, _, _, _, _ => none
 | k + 1, x0, x1, x12, x13 => if x13 < x12 then (if 0 ≤ x13 then (if x13 < (x0.length : Int) then (if x13 < (x1.length : Int) then (if (rdOf ByteArray.empty x0 x13).toList = (rdOf ByteArray.empty x1 x13).toList then (slices_Equal_string_string.l0 k x0 x1 x12 (wrap64 (x13 + 1))) else (some false)) else (none)) else (none)) else (none)) else (some true)
def slices_Equal_string_string.f (k : Nat) (l0 : List ByteArray) (l1 : List ByteArray) : Option (Bool) := if (l0.length : Int) = (l1.length : Int) then (slices_Equal_string_string.l0 k l0 l1 (l0.length : Int) 0) else (some false)
set_option maxHeartbeats 8000000 in
set_option maxRecDepth 100000 in
theorem slices_Equal_string_string.calls (k : Nat) (A0 : Option Addr) (c0 : Nat) (l0 : List ByteArray) (A1 : Option Addr) (c1 : Nat) (l1 : List ByteArray) (r : Bool) (w : World) (hr0 : Kd.C Kd.string w A0 l0.length l0) (hc0 : l0.length ≤ c0) (hr1 : Kd.C Kd.string w A1 l1.length l1) (hc1 : l1.length ≤ c1) (h : slices_Equal_string_string.f k l0 l1 = some r) :
  Calls Try.prog 21 #[.slice A0 l0.length c0, .slice A1 l1.length c1] w fun e w' => e = .returned (.bool r) ∧ Drawn0 w w' := by
 have HR0 := Aside0.mk hr0
 have HC0 := Aside0.mk hc0
 clear hr0 hc0
 have HR1 := Aside0.mk hr1
 have HC1 := Aside0.mk hc1
 clear hr1 hc1
 have H : (if (l0.length : Int) = (l1.length : Int) then (slices_Equal_string_string.l0 k l0 l1 (l0.length : Int) 0) else (some false)) = some r := h
 clear h
 by_cases c3 : (l0.length : Int) = (l1.length : Int)
 ·rw [if_pos c3] at H
  have c3b0 : ((l0.length : Int) == (l1.length : Int)) = true := beq_iff_eq.mpr c3
  have c3b1 : ((l0.length : Int) != (l1.length : Int)) = false := bne_eq_false_iff_eq.mpr c3
  have c3b2 : (l0.length == l1.length) = true := by first | simpa using c3 | (simp at c3 ⊢; omega)
  clear c3
  have H' := Aside0.mk H
  clear H
  go_enter Try.func21, Try.ntmps21
  go_wp2
  repeat (go_quiet (fail); try go_wp2)
  go_loopg [13] k (fun kq v13 w' => ∃ (x13_1 : Int), v13 = .int .i64 x13_1 ∧ Aside0 (slices_Equal_string_string.l0 kq l0 l1 (l0.length : Int) x13_1 = some r) ∧ Aside0 (kq ≤ k) ∧ Drawn0 w w')
  case atStart => exact ⟨(0), (by first | rfl | (simp; done) | (simp [*]; done)), H', ⟨Nat.le_refl _⟩, by repeat (first | exact Drawn0.refl _ | apply Drawn0.step)⟩
  case round =>
   clear H'
   try clear c1
   try clear c2
   try clear p2
   try clear c3
   try clear c3b0
   try clear c3b1
   try clear c3b2
   obtain ⟨x13_1, rfl, HA, HK1, ⟨m1, rfl⟩⟩ := hrel
   cases gk with
   | zero => exact absurd HA.out (by simp [slices_Equal_string_string.l0])
   | succ k1 =>
    have H := HA.out
    clear HA
    simp only [slices_Equal_string_string.l0] at H
    by_cases c4 : x13_1 < (l0.length : Int)
    ·rw [if_pos c4] at H
     have c4b0 : decide (x13_1 < (l0.length : Int)) = true := decide_eq_true c4
     clear c4
     by_cases c5 : 0 ≤ x13_1
     ·rw [if_pos c5] at H
      have c5b0 : decide (0 ≤ x13_1) = true := decide_eq_true c5
      clear c5
      by_cases c6 : x13_1 < (l0.length : Int)
      ·rw [if_pos c6] at H
       have c6b0 : decide (x13_1 < (l0.length : Int)) = true := decide_eq_true c6
       clear c6
       by_cases c7 : x13_1 < (l1.length : Int)
       ·rw [if_pos c7] at H
        have c7b0 : decide (x13_1 < (l1.length : Int)) = true := decide_eq_true c7
        clear c7
        by_cases c8 : (rdOf ByteArray.empty l0 x13_1).toList = (rdOf ByteArray.empty l1 x13_1).toList
        ·rw [if_pos c8] at H
         have c8b0 : ((rdOf ByteArray.empty l0 x13_1).toList == (rdOf ByteArray.empty l1 x13_1).toList) = true := beq_iff_eq.mpr c8
         have c8b1 : ((rdOf ByteArray.empty l0 x13_1).toList != (rdOf ByteArray.empty l1 x13_1).toList) = false := bne_eq_false_iff_eq.mpr c8
         clear c8
         have H' := Aside0.mk H
         clear H
         have p155 : 0 ≤ (x13_1 : Int) := of_decide_eq_true (by first | (with_reducible assumption) | assumption)
         have q155 : x13_1 < (l0.length : Int) := of_decide_eq_true (by first | (with_reducible assumption) | assumption)
         obtain ⟨ad155, e155, hx155_0⟩ := Kd.at_string HR0.out x13_1 p155 q155
         cases e155
         replace p155 := eq_true p155
         replace q155 := eq_true q155
         have p156 : 0 ≤ (x13_1 : Int) := of_decide_eq_true (by first | (with_reducible assumption) | assumption)
         have q156 : x13_1 < (l1.length : Int) := of_decide_eq_true (by first | (with_reducible assumption) | assumption)
         obtain ⟨ad156, e156, hx156_0⟩ := Kd.at_string HR1.out x13_1 p156 q156
         cases e156
         replace p156 := eq_true p156
         replace q156 := eq_true q156
         go_wp2
         repeat (go_quiet (fail); try go_wp2)
         go_roundg k1
         case measure => have := HK1.out; omega
         case rel => exact ⟨(wrap64 (x13_1 + 1)), (by first | rfl | (simp; done) | (simp [*]; done)), H', ⟨by have := HK1.out; omega⟩, by repeat (first | exact Drawn0.refl _ | apply Drawn0.step)⟩
        ·rw [if_neg c8] at H
         have c8b0 : ((rdOf ByteArray.empty l0 x13_1).toList == (rdOf ByteArray.empty l1 x13_1).toList) = false := beq_eq_false_iff_ne.mpr c8
         have c8b1 : ((rdOf ByteArray.empty l0 x13_1).toList != (rdOf ByteArray.empty l1 x13_1).toList) = true := bne_iff_ne.mpr c8
         obtain rfl := Option.some.inj H
         have p155 : 0 ≤ (x13_1 : Int) := of_decide_eq_true (by first | (with_reducible assumption) | assumption)
         have q155 : x13_1 < (l0.length : Int) := of_decide_eq_true (by first | (with_reducible assumption) | assumption)
         obtain ⟨ad155, e155, hx155_0⟩ := Kd.at_string HR0.out x13_1 p155 q155
         cases e155
         replace p155 := eq_true p155
         replace q155 := eq_true q155
         have p156 : 0 ≤ (x13_1 : Int) := of_decide_eq_true (by first | (with_reducible assumption) | assumption)
         have q156 : x13_1 < (l1.length : Int) := of_decide_eq_true (by first | (with_reducible assumption) | assumption)
         obtain ⟨ad156, e156, hx156_0⟩ := Kd.at_string HR1.out x13_1 p156 q156
         cases e156
         replace p156 := eq_true p156
         replace q156 := eq_true q156
         go_wp2
         repeat (go_quiet (fail); try go_wp2)
         go_ret
         exact ⟨by first | rfl | (simp; done) | (simp [*]; done), by repeat (first | exact Drawn0.refl _ | apply Drawn0.step)⟩
       ·rw [if_neg c7] at H
        exact absurd H (by simp)
      ·rw [if_neg c6] at H
       exact absurd H (by simp)
     ·rw [if_neg c5] at H
      exact absurd H (by simp)
    ·rw [if_neg c4] at H
     have c4b0 : decide (x13_1 < (l0.length : Int)) = false := decide_eq_false c4
     clear c4
     obtain rfl := Option.some.inj H
     go_wp2
     repeat (go_quiet (fail); try go_wp2)
     go_ret
     exact ⟨by first | rfl | (simp; done) | (simp [*]; done), by repeat (first | exact Drawn0.refl _ | apply Drawn0.step)⟩
 ·rw [if_neg c3] at H
  have c3b0 : ((l0.length : Int) == (l1.length : Int)) = false := beq_eq_false_iff_ne.mpr c3
  have c3b1 : ((l0.length : Int) != (l1.length : Int)) = true := bne_iff_ne.mpr c3
  have c3b2 : (l0.length == l1.length) = false := by first | simpa using c3 | (simp at c3 ⊢; omega)
  obtain rfl := Option.some.inj H
  go_enter Try.func21, Try.ntmps21
  go_wp2
  repeat (go_quiet (fail); try go_wp2)
  go_ret
  exact ⟨by first | rfl | (simp; done) | (simp [*]; done), by repeat (first | exact Drawn0.refl _ | apply Drawn0.step)⟩
end Go.Proofs.Ytckfkbmefdmedaa.Q
namespace Go.Proofs.Ytckfkbmefdmedaa
open Go.RowKit Go.Proofs.Kq Go.Proofs.Ytckfkbmefdmedaa.Q
open Go.Proofs.YtckfkbmefdmedaaW.PrintWords (pw_cell_below Kd Kd.C Kd.C_below Kd.R_of_own Kd.R_reads encs)
set_option linter.unusedVariables false
set_option linter.unusedSimpArgs false
theorem eqd_loop (a : List ByteArray) (hl : a.length ≤ 1000000) : ∀ r i : Nat, i + r = a.length → EvT (fun k => slices_Equal_string_string.l0 k a a a.length i) true
  | 0, i, hi => by
    refine EvT.done (fun k => ?_)
    rw [slices_Equal_string_string.l0, if_neg (by omega)]
  | r + 1, i, hi => by
    refine EvT.step (fun k => ?_) (eqd_loop a hl r (i + 1) (by omega))
    rw [slices_Equal_string_string.l0, if_pos (by omega), if_pos (by omega), if_pos (by omega), if_pos (by omega), if_pos rfl, nx i (by omega)]
theorem eqd_ok (a : List ByteArray) (hl : a.length ≤ 1000000) : ∃ K, slices_Equal_string_string.f K a a = some true := by
  refine EvT.one (f := fun k => slices_Equal_string_string.f k a a) (EvT.congr (fun k => ?_) (eqd_loop a hl a.length 0 (by omega)))
  unfold slices_Equal_string_string.f; rw [if_pos rfl]; rfl
theorem strs_reads {w : World} {base : Nat} {v : Value} {xs : List ByteArray} (h : Strs w base v xs) : ∃ A c, v = .slice A xs.length c ∧ xs.length ≤ c ∧ Kd.C Kd.string w A xs.length xs := by
  have h2 : w.ownsRow base 9 1 v xs.length (encs Value.string xs) := by rw [← strs_encs]; exact h
  exact Kd.R_reads (Kd.R_of_own (enc := Value.string) (h1 := fun _ => rfl) (ok := fun _ => True) h2 (fun _ _ => trivial))
def EqP (w : World) (e : Ending) (w' : World) : Prop := e = .returned (.bool true) ∧ ∃ n, w' = w.drewN n
theorem equal_same (b1 b2 : Nat) (v1 v2 : Value) (xs : List ByteArray) (w : World) (h1 : Strs w b1 v1 xs) (h2 : Strs w b2 v2 xs) (hl : xs.length ≤ 1000000) : Calls Try.prog 21 #[v1, v2] w (EqP w) := by
  obtain ⟨A1, c1, rfl, l1, C1⟩ := strs_reads h1
  obtain ⟨A2, c2, rfl, l2, C2⟩ := strs_reads h2
  obtain ⟨K, hK⟩ := eqd_ok xs hl
  refine (slices_Equal_string_string.calls K A1 c1 xs A2 c2 xs true w C1 l1 C2 l2 hK).mono ?_
  rintro e w9 ⟨rfl, hd⟩
  obtain ⟨m, rfl⟩ := hd
  exact ⟨rfl, m, rfl⟩
theorem Dt.lower {w : World} {base base' d : Nat} {v1 v2 : Value} {bs : List ByteArray} {ps : List Wr} {fuse : Int} {dead : Bool} (h : Dt w base d v1 v2 bs ps fuse dead) (hb : base' ≤ base) : Dt w base' d v1 v2 bs ps fuse dead :=
  ⟨h.blk, h.own.lower hb, h.pend.lower hb⟩
theorem Et.lower {w : World} {base base' d : Nat} {v1 v2 : Value} {bs : List ByteArray} {ps : List Wr} {fuse : Int} {dead : Bool} (h : Et w base d v1 v2 bs ps fuse dead) (hb : base' ≤ base) : Et w base' d v1 v2 bs ps fuse dead :=
  ⟨h.blk, h.own.lower hb, h.pend.lower hb⟩
theorem ES_lt {w : World} {base d : Nat} {v1 v2 : Value} {s : DkS} (h : ET w base d v1 v2 s) {k : Nat} (hk : ES d v1 v2 k) : k < w.heap.size := by
  rcases hk with rfl | hk | hk
  · exact h.blk.lt
  · exact h.own.lt hk
  · exact h.pend.lt hk
theorem ES_ge {w : World} {base d : Nat} {v1 v2 : Value} {s : DkS} (h : ET w base d v1 v2 s) (hd : base ≤ d) {k : Nat} (hk : ES d v1 v2 k) : base ≤ k := by
  rcases hk with rfl | hk | hk
  · exact hd
  · exact h.own.ge hk
  · exact h.pend.ge hk
structure AJ (w wr : World) (d g : Nat) (v1 v2 u1 u2 : Value) (s t : DkS) : Prop where
  D : DT wr w.heap.size d v1 v2 s
  E : ET wr w.heap.size g u1 u2 t
  bel : Below w.heap.size w wr
  apart : ∀ q, DS d v1 v2 q → ¬ ES g u1 u2 q
  hd : w.heap.size ≤ d
  hg : w.heap.size ≤ g
section
variable {w wr : World} {d g : Nat} {v1 v2 u1 u2 : Value} {s t : DkS}
theorem AJ.below {w1 : World} (h : AJ w wr d g v1 v2 u1 u2 s t) (hb : Below wr.heap.size wr w1) : AJ w w1 d g v1 v2 u1 u2 s t :=
  ⟨h.D.below hb, h.E.below hb, below_step h.bel hb, h.apart, h.hd, h.hg⟩
theorem AJ.drew (h : AJ w wr d g v1 v2 u1 u2 s t) : AJ w wr.drew d g v1 v2 u1 u2 s t := h.below (Below.refl _ _).drew
theorem AJ.drewN (h : AJ w wr d g v1 v2 u1 u2 s t) (n : Nat) : AJ w (wr.drewN n) d g v1 v2 u1 u2 s t := h.below (below_drewN (Below.refl _ _) n)
theorem AJ.far {x T : Nat} {cs : Array Value} (h : AJ w wr d g v1 v2 u1 u2 s t) (hB : Blk wr x cs T) (h1 : T ≠ 132) (h2 : T ≠ 9) (h3 : T ≠ 135) (h4 : T ≠ 65) (h5 : T ≠ 140) : ¬ DS d v1 v2 x ∧ ¬ ES g u1 u2 x := by
  constructor
  · rintro (rfl | hk | hk)
    · have a := h.D.blk; unfold Blk at a hB; rw [a] at hB; cases hB; exact h1 rfl
    · exact h.D.own.ne hB (Ne.symm h2) hk
    · exact h.D.pend.ne hB (Ne.symm h3) hk
  · rintro (rfl | hk | hk)
    · have a := h.E.blk; unfold Blk at a hB; rw [a] at hB; cases hB; exact h4 rfl
    · exact h.E.own.ne hB (Ne.symm h2) hk
    · exact h.E.pend.ne hB (Ne.symm h5) hk
theorem AJ.mu {s' : DkS} {r e : Ending} {w' : World} (h : AJ w wr d g v1 v2 u1 u2 s t) (hM : MuP w.heap.size d v1 v2 r s' wr e w') :
    e = r ∧ ∃ v2', AJ w w' d g v1 v2' u1 u2 s' t ∧ ∀ x cs, Blk wr x cs 62 → Blk w' x cs 62 := by
  obtain ⟨rfl, v2', hD, hF, hP⟩ := hM
  refine ⟨rfl, v2', ⟨hD, h.E.fr hF (fun q hq hn => h.apart q hn hq), h.bel.trans (Fr.toB hF (fun q hq => DS_ge h.D h.hd hq) h.bel.size), fun q hq hn => ?_, h.hd, h.hg⟩, fun x cs hB => hF.blk hB (h.far hB (by decide) (by decide) (by decide) (by decide) (by decide)).1⟩
  rcases hP q hq with h1 | h1
  · exact h.apart q h1 hn
  · have := ES_lt h.E hn; omega
end
end Go.Proofs.Ytckfkbmefdmedaa
namespace Go.Proofs.Ytckfkbmefdmedaa
open Go.RowKit Go.Proofs.Kq Go.Proofs.Ytckfkbmefdmedaa.Q
open Go.Proofs.YtckfkbmefdmedaaW.PrintWords (pw_cell_below Kd Kd.C Kd.C_below)
open Go.Proofs.YtckfkbmefdmedaaW.PrintLast
set_option linter.unusedVariables false
set_option linter.unusedSimpArgs false
def BlP (bs : List ByteArray) (w : World) (e : Ending) (w' : World) : Prop := ∃ v, e = .returned (.tuple #[v, .int .i64 0]) ∧ Strs w' w.heap.size v bs ∧ Below w.heap.size w w'
theorem us_zero (bs : List ByteArray) (f : Int) (k : Nat) (hk : k < bs.length) : usF (⟨bs, [], f, false⟩ : DkS).bs.length (⟨bs, [], f, false⟩ : DkS).dead (k : Int) = 0 := by
  show usF bs.length false (k : Int) = 0
  unfold usF; rw [if_neg (by decide), if_neg (by omega)]
theorem rdF_plain (bs : List ByteArray) (f : Int) (k : Nat) (hk : k < bs.length) : rdF ⟨bs, [], f, false⟩ (k : Int) = (bs[k], 0) := by
  have hu : usF bs.length false (k : Int) = 0 := by
    unfold usF; rw [if_neg (by decide), if_neg (by omega)]
  unfold rdF
  rw [if_pos hu]
  simp [hk]
set_option maxHeartbeats 2000000 in
set_option maxRecDepth 100000 in
theorem blocks_any (base d : Nat) (v1 v2 : Value) (bs : List ByteArray) (f : Int) (w : World) (h : DT w base d v1 v2 ⟨bs, [], f, false⟩) (hl : bs.length ≤ 1000000) :
    Calls Try.prog 83 #[.pointer (some ⟨d, 0, none⟩)] w (BlP bs w) := by
  have HD := hidI h
  clear h
  obtain ⟨i0, hi0, hz0, hz1, hz2⟩ := info_parts info9s
  go_enter Try.func83, Try.ntmps83
  go_wp2_with fail
  with_reducible refine (len_any base d v1 v2 _ w HD.out).mono ?_
  rintro e w1 ⟨rfl, hw1⟩
  subst hw1
  simp only []
  go_wp2_with fail
  go_loopw [4, 10] (fun v i wr => ∃ k : Nat, k ≤ bs.length ∧ i = .int .i64 k ∧ Hid (Strs wr w1.heap.size v (bs.take k) ∧ Below w1.heap.size w1 wr)) (fun _ i _ => bs.length - (intOf i).toNat)
  case atStart => exact ⟨0, Nat.zero_le _, rfl, hidI ⟨Go.Proofs.Kq.Own.nil _ _ _ _ _, Below.refl _ _⟩⟩
  case round =>
    obtain ⟨k, hk, rfl, hI⟩ := hrel
    by_cases hlt : k < bs.length
    · have g1 : decide ((k : Int) < (bs.length : Int)) = true := decide_eq_true (by omega)
      have hlk : (bs.take k).length = k := by rw [List.length_take]; omega
      have HLK := hidI hlk
      obtain ⟨A1, c1, hv, _⟩ := hI.out.1.slice_
      rw [hlk] at hv
      subst hv
      clear hlk
      have hR := read_any base d v1 v2 ⟨bs, [], f, false⟩ (k : Int) wr (HD.out.below hI.out.2) (Nat.zero_le _) (us_zero bs f k hlt)
      rw [rdF_plain bs f k hlt] at hR
      obtain ⟨z, hz⟩ : ∃ z, z = bs[k] := ⟨_, rfl⟩
      rw [← hz] at hR
      have HTK : Hid (bs.take (k + 1) = bs.take k ++ [z]) := hidI (by rw [hz]; exact List.take_succ_eq_append_getElem hlt)
      clear hz
      go_wp2_with fail
      with_reducible refine hR.mono ?_
      rintro e w2 ⟨rfl, hb2⟩
      have hb1 := below_step hI.out.2 hb2
      have hS2 := hI.out.1.below hb2
      have hbs := hb1.size
      have HO : Hid (Strs (w2.alloc (.cells #[.string z] 9)) w1.heap.size (.slice A1 k c1) (bs.take k)) := hidI (hS2.below (below_new (Below.refl w2.heap.size w2) _))
      have HRd : Hid (Reads (w2.alloc (.cells #[.string z] 9)) (w2.heap.size + 1) 1 (some ⟨w2.heap.size, 0, none⟩) 1 [.string z]) := hidI ⟨rfl, fun _ => ⟨_, rfl, Nat.lt_succ_self _, fun j q hj => by
        have h2 := Blk.c (Blk.new' (w := w2) (b := w2.heap.size) (cs := #[.string z]) (T := 9) rfl)
        rw [Kp.add_plain', Nat.zero_add, h2]
        simpa using hj⟩⟩
      have HB1 := hidI hb1
      clear hb1 hb2 hR hS2
      simp only []
      have e1 : Hid ((bs.take k ++ [z]).length = k + 1) := hidI (by rw [List.length_append, HLK.out]; rfl)
      go_wp2_with (at_builtin; refine wpList_append_any _ rfl (.tmp 22) (.tmp 24) 22 rfl w1.heap.size 9 i0 (.string ⟨#[]⟩) 1 16 Try.underlying22 hi0 hz0 hz1 hz2 rfl (by decide) (.slice A1 k c1) (bs.take k).length ((bs.take k).flatMap sl) rfl ?aO (w2.heap.size + 1) (some ⟨w2.heap.size, 0, none⟩) 1 1 [.string z] rfl HRd.out ?a1 ?aM ?aB ?aS ?_; (case aO => exact HO.out); (case a1 => intro q hq; rcases List.mem_singleton.1 hq with rfl; rfl); (case aM => simp only [maxLen]; rw [HLK.out]; omega); (case aB => rw [HLK.out]; omega); (case aS => simp; omega); intro v5 w5 hown hg hat; have hO5 := Go.Proofs.Kq.Own.snoc (l := sl) (p := z) hown; obtain ⟨A5, c5, hv5, _⟩ := hO5.slice_; rw [e1.out] at hv5; subst hv5; clear hown)
      have HF : Hid (Strs w5 w1.heap.size (.slice A5 (k + 1) c5) (bs.take (k + 1)) ∧ Below w1.heap.size w1 w5) := hidI (by
        rw [HTK.out]
        refine ⟨hO5, Below.grown (below_new HB1.out _) hg (below_new HB1.out _).size (fun q hq => HO.out.ge hq)⟩)
      clear hO5 hg hat
      go_wp2_with fail
      go_roundw
      · exact ⟨k + 1, by omega, by simp, HF⟩
      · simp [intOf]; omega
    · have g1 : decide ((k : Int) < (bs.length : Int)) = false := decide_eq_false (by omega)
      obtain rfl : k = bs.length := by omega
      obtain ⟨v, hv⟩ : ∃ v : Value, v = u4 := ⟨_, rfl⟩
      have hfin : Hid (BlP bs w1 (.returned (.tuple #[v, .int .i64 0])) wr) := hidI ⟨v, rfl, by rw [hv]; have := hI.out.1; rwa [List.take_length] at this, hI.out.2⟩
      subst hv
      go_wp2_with fail
      go_ret2
      exact hfin.out
set_option maxHeartbeats 4000000 in
set_option maxRecDepth 100000 in
theorem erase_any (base d : Nat) (v1 v2 : Value) (s : DkS) (n m a : Nat) (bl0 : Nat) (vl : Value) (l : List ByteArray) (w : World) (h : DT w base d v1 v2 s) (hG : Good n m s) (hb : base ≤ w.heap.size) (hL : Strs w bl0 vl l) (hfar : ∀ q, vl.ownBlock = some q → ¬ DS d v1 v2 q) (ha : a ≤ l.length) (hm : m ≤ 1000000) (hl : l.length ≤ 1000000) :
    Calls Try.prog 84 #[.pointer (some ⟨d, 0, none⟩), vl, .int .i64 a] w (MuP base d v1 v2 (.returned (.int .i64 (erL s a false (l.drop a)).1)) (erL s a false (l.drop a)).2 w) := by
  obtain ⟨R, hR⟩ : ∃ R, R = erL s a false (l.drop a) := ⟨_, rfl⟩
  rw [← hR]
  obtain ⟨A, c, rfl, _⟩ := hL.slice_
  have H0 : Hid (R = erL s a false (l.drop a) ∧ DT w base d v1 v2 s ∧ Good n (m + a) s ∧ Fr (DS d v1 v2) w w ∧ (∀ q, DS d v1 v2 q → DS d v1 v2 q ∨ w.heap.size ≤ q) ∧ Strs w bl0 (.slice A l.length c) l ∧ ∀ q, (Value.slice A l.length c).ownBlock = some q → ¬ DS d v1 v2 q) := hidI ⟨hR, h, hG.mono (by omega), Fr.refl _ _, fun q hq => .inl hq, hL, hfar⟩
  clear hR h hG hL hfar
  go_enter Try.func84, Try.ntmps84
  go_wp2_with fail
  go_loopw [7, 8] (fun b i wr => ∃ (k : Nat) (bb : Bool) (s' : DkS) (v2' : Value), a ≤ k ∧ k ≤ l.length ∧ i = .int .i64 k ∧ b = .bool bb ∧ Hid (R = erL s' k bb (l.drop k) ∧ DT wr base d v1 v2' s' ∧ Good n (m + k) s' ∧ Fr (DS d v1 v2) w wr ∧ (∀ q, DS d v1 v2' q → DS d v1 v2 q ∨ w.heap.size ≤ q) ∧ Strs wr bl0 (.slice A l.length c) l ∧ ∀ q, (Value.slice A l.length c).ownBlock = some q → ¬ DS d v1 v2' q)) (fun _ i _ => l.length - (intOf i).toNat)
  case atStart => exact ⟨a, false, s, v2, Nat.le_refl _, ha, rfl, rfl, H0⟩
  case round =>
    obtain ⟨k, bb, s', v2', hak, hk, rfl, rfl, HI⟩ := hrel
    clear H0
    by_cases hlt : k < l.length
    · have g1 : decide ((k : Int) < (l.length : Int)) = true := decide_eq_true (by omega)
      obtain ⟨bq, rfl⟩ : ∃ bq, A = some ⟨bq, 0, none⟩ := by
        rcases HI.out.2.2.2.2.2.1.cases_ with ⟨e, h⟩ | ⟨b, c', e, _⟩
        · rw [h] at hlt; simp at hlt
        · injection e with e1; exact ⟨b, e1⟩
      have q := (str_at HI.out.2.2.2.2.2.1 k hlt).1
      obtain ⟨x, hx⟩ : ∃ x, x = l[k] := ⟨_, rfl⟩
      rw [← hx] at q
      have HX : Hid (l.drop k = x :: l.drop (k + 1)) := hidI (by rw [hx]; exact List.drop_eq_getElem_cons hlt)
      clear hx
      by_cases hxe : x = e64
      · as_aux_lemma =>
          have hR : Hid (R = erL s' (k + 1) bb (l.drop (k + 1))) := hidI (by
            rw [HI.out.1, HX.out]
            conv => lhs; unfold erL
            rw [if_pos hxe])
          have hx1 : (x.toList == e64.toList) = true := by rw [hxe]; simp
          clear hxe
          go_wp2_with fail
          refine start_ (n := 6) (S := fun w' => w'.cell? ⟨bq, k, none⟩ = some (.string x)) (ds := []) #[false, false, false, false, false, false] (by kernel_rfl) rfl rfl (q) (fun hHeld => ?_)
          refine pure_ (i := 0) (N := some 17) (v := ?_) (a' := ?_) #[true, false, false, false, false, false] rfl rfl (by kernel_rfl) (fun _ _ _ h => h) (Or.inl ⟨by rfl, ?_⟩) ?_ ?_
          rotate_left
          · intro w'
            go_simp
            with_reducible rfl
          rotate_left
          · simp only [Act.put, List.setIfInBounds_toArray, List.set_cons_zero, List.set_cons_succ, i64_w, i32_w]
            rfl
          refine pure_ (i := 1) (N := some 18) (v := ?_) (a' := ?_) #[true, true, false, false, false, false] rfl rfl (by kernel_rfl) (fun _ _ _ h => h) (Or.inl ⟨by rfl, ?_⟩) ?_ ?_
          rotate_left
          · intro w'
            go_simp
            with_reducible rfl
          rotate_left
          · simp only [Act.put, List.setIfInBounds_toArray, List.set_cons_zero, List.set_cons_succ, i64_w, i32_w]
            rfl
          refine pure_ (i := 2) (N := some 19) (v := ?_) (a' := ?_) #[true, true, true, false, false, false] rfl rfl (by kernel_rfl) (fun _ _ _ h => h) (Or.inl ⟨by rfl, ?_⟩) ?_ ?_
          rotate_left
          · intro w'
            go_simp
            with_reducible rfl
          rotate_left
          · simp only [Act.put, List.setIfInBounds_toArray, List.set_cons_zero, List.set_cons_succ, i64_w, i32_w]
            rfl
          refine take_ (i := 3) (N := some 20) (v := ?_) (a' := ?_) #[true, true, true, true, false, false] rfl rfl (by kernel_rfl) (fun _ _ _ h => h) (Or.inl ⟨by rfl, ?_⟩) hHeld ?_ ?_
          rotate_left
          · intro w' s0
            go_simp
            with_reducible rfl
          rotate_left
          · simp only [Act.put, List.setIfInBounds_toArray, List.set_cons_zero, List.set_cons_succ, i64_w, i32_w]
            rfl
          refine one_ (i := 4) (N := some 21) #[true, true, true, true, true, false] rfl rfl (by kernel_rfl) (by decide) (fun K hK => ?_)
          refine goes_ Try.func32 (by kernel_rfl) rfl #[] (by rfl) rfl rfl (by simp only [List.map_toArray, List.map_nil]) ?_
          with_reducible refine (empty_any _).mono ?_
          rintro e w2 ⟨rfl, hb2⟩
          refine ⟨_, rfl, ?_⟩
          refine hK.out _ _ (pw_cell_below hb2 hHeld) (fun hHeld => ?_)
          clear hK K
          refine norm_ (a' := ?_) ?_ ?_
          rotate_left
          · show Act.put _ (some 21) _ = _
            simp only [Act.put, List.setIfInBounds_toArray, List.set_cons_zero, List.set_cons_succ, i64_w, i32_w]
            rfl
          refine pure_ (i := 5) (N := some 22) (v := ?_) (a' := ?_) #[true, true, true, true, true, true] rfl rfl (by kernel_rfl) (fun _ _ _ h => h) (Or.inl ⟨by rfl, ?_⟩) ?_ ?_
          rotate_left
          · intro w'
            go_simp
            with_reducible rfl
          rotate_left
          · simp only [Act.put, List.setIfInBounds_toArray, List.set_cons_zero, List.set_cons_succ, i64_w, i32_w]
            rfl
          refine done_ (by kernel_rfl) ?_
          clear hHeld
          have HF : Hid (R = erL s' (k + 1) bb (l.drop (k + 1)) ∧ DT w2 base d v1 v2' s' ∧ Good n (m + (k + 1)) s' ∧ Fr (DS d v1 v2) w w2 ∧ (∀ q, DS d v1 v2' q → DS d v1 v2 q ∨ w.heap.size ≤ q) ∧ Strs w2 bl0 (.slice (some ⟨bq, 0, none⟩) l.length c) l ∧ ∀ q, (Value.slice (some ⟨bq, 0, none⟩) l.length c).ownBlock = some q → ¬ DS d v1 v2' q) := hidI
            ⟨hR.out, HI.out.2.1.below ((Below.refl wr.heap.size wr).drew.trans hb2), HI.out.2.2.1.mono (by omega), HI.out.2.2.2.1.drew.below hb2, HI.out.2.2.2.2.1, HI.out.2.2.2.2.2.1.below ((Below.refl wr.heap.size wr).drew.trans hb2), HI.out.2.2.2.2.2.2⟩
          clear hb2
          go_wp2_with fail
          go_roundw
          · exact ⟨k + 1, bb, s', v2', by omega, by omega, by simp, rfl, HF⟩
          · simp [intOf]; omega
      · have hx1 : (x.toList == e64.toList) = false := by
          rw [beq_eq_false_iff_ne]; intro h; apply hxe; rw [ByteArray.toList_eq, ByteArray.toList_eq] at h; apply ByteArray.ext; exact Array.ext' h
        have hR : Hid (R = if (wrS s' k e64).1 = 0 then erL (wrS s' k e64).2 (k + 1) true (l.drop (k + 1)) else wrS s' k e64) := hidI (by
          rw [HI.out.1, HX.out]
          conv => lhs; unfold erL
          rw [if_neg hxe])
        clear hxe
        have hG' := wrS_good HI.out.2.2.1 (k : Int) e64
        by_cases hr : (wrS s' k e64).1 = 0
        · as_aux_lemma =>
            have hR2 : Hid (R = erL (wrS s' k e64).2 (k + 1) true (l.drop (k + 1))) := hidI (by rw [hR.out, if_pos hr])
            obtain ⟨s3, hs3⟩ : ∃ s3, s3 = (wrS s' k e64).2 := ⟨_, rfl⟩
            rw [← hs3] at hR2 hG'
            have HG := hidI hG'
            have HS3 := hidI hs3
            have HR0 := hidI hr
            clear hs3 hG' hr
            go_wp2_with fail
            refine start_ (n := 6) (S := fun w' => w'.cell? ⟨bq, k, none⟩ = some (.string x)) (ds := []) #[false, false, false, false, false, false] (by kernel_rfl) rfl rfl (q) (fun hHeld => ?_)
            refine pure_ (i := 0) (N := some 17) (v := ?_) (a' := ?_) #[true, false, false, false, false, false] rfl rfl (by kernel_rfl) (fun _ _ _ h => h) (Or.inl ⟨by rfl, ?_⟩) ?_ ?_
            rotate_left
            · intro w'
              go_simp
              with_reducible rfl
            rotate_left
            · simp only [Act.put, List.setIfInBounds_toArray, List.set_cons_zero, List.set_cons_succ, i64_w, i32_w]
              rfl
            refine pure_ (i := 1) (N := some 18) (v := ?_) (a' := ?_) #[true, true, false, false, false, false] rfl rfl (by kernel_rfl) (fun _ _ _ h => h) (Or.inl ⟨by rfl, ?_⟩) ?_ ?_
            rotate_left
            · intro w'
              go_simp
              with_reducible rfl
            rotate_left
            · simp only [Act.put, List.setIfInBounds_toArray, List.set_cons_zero, List.set_cons_succ, i64_w, i32_w]
              rfl
            refine pure_ (i := 2) (N := some 19) (v := ?_) (a' := ?_) #[true, true, true, false, false, false] rfl rfl (by kernel_rfl) (fun _ _ _ h => h) (Or.inl ⟨by rfl, ?_⟩) ?_ ?_
            rotate_left
            · intro w'
              go_simp
              with_reducible rfl
            rotate_left
            · simp only [Act.put, List.setIfInBounds_toArray, List.set_cons_zero, List.set_cons_succ, i64_w, i32_w]
              rfl
            refine take_ (i := 3) (N := some 20) (v := ?_) (a' := ?_) #[true, true, true, true, false, false] rfl rfl (by kernel_rfl) (fun _ _ _ h => h) (Or.inl ⟨by rfl, ?_⟩) hHeld ?_ ?_
            rotate_left
            · intro w' s0
              go_simp
              with_reducible rfl
            rotate_left
            · simp only [Act.put, List.setIfInBounds_toArray, List.set_cons_zero, List.set_cons_succ, i64_w, i32_w]
              rfl
            refine one_ (i := 4) (N := some 21) #[true, true, true, true, true, false] rfl rfl (by kernel_rfl) (by decide) (fun K hK => ?_)
            refine goes_ Try.func32 (by kernel_rfl) rfl #[] (by rfl) rfl rfl (by simp only [List.map_toArray, List.map_nil]) ?_
            with_reducible refine (empty_any _).mono ?_
            rintro e w2 ⟨rfl, hb2⟩
            refine ⟨_, rfl, ?_⟩
            refine hK.out _ _ (pw_cell_below hb2 hHeld) (fun hHeld => ?_)
            clear hK K
            refine norm_ (a' := ?_) ?_ ?_
            rotate_left
            · show Act.put _ (some 21) _ = _
              simp only [Act.put, List.setIfInBounds_toArray, List.set_cons_zero, List.set_cons_succ, i64_w, i32_w]
              rfl
            refine pure_ (i := 5) (N := some 22) (v := ?_) (a' := ?_) #[true, true, true, true, true, true] rfl rfl (by kernel_rfl) (fun _ _ _ h => h) (Or.inl ⟨by rfl, ?_⟩) ?_ ?_
            rotate_left
            · intro w'
              go_simp
              with_reducible rfl
            rotate_left
            · simp only [Act.put, List.setIfInBounds_toArray, List.set_cons_zero, List.set_cons_succ, i64_w, i32_w]
              rfl
            refine done_ (by kernel_rfl) ?_
            clear hHeld
            have HI2 : Hid (DT w2 base d v1 v2' s' ∧ Fr (DS d v1 v2) w w2 ∧ Strs w2 bl0 (.slice (some ⟨bq, 0, none⟩) l.length c) l) := hidI ⟨HI.out.2.1.below ((Below.refl wr.heap.size wr).drew.trans hb2), HI.out.2.2.2.1.drew.below hb2, HI.out.2.2.2.2.2.1.below ((Below.refl wr.heap.size wr).drew.trans hb2)⟩
            clear hb2
            go_wp2_with fail
            with_reducible refine (empty_any _).mono ?_
            rintro e w3 ⟨rfl, hb3⟩
            have HI3 : Hid (DT w3 base d v1 v2' s' ∧ Fr (DS d v1 v2) w w3 ∧ Strs w3 bl0 (.slice (some ⟨bq, 0, none⟩) l.length c) l) := hidI ⟨HI2.out.1.below hb3, HI2.out.2.1.below hb3, HI2.out.2.2.below hb3⟩
            have hW := write_any base d v1 v2' s' (k : Int) e64 w3 HI3.out.1 (Nat.le_trans hb HI3.out.2.1.size) HI.out.2.2.1.fuse (by have := HI.out.2.2.1.few; omega)
            rw [HR0.out, ← HS3.out] at hW
            clear hb3
            simp only []
            go_wp2_with fail
            with_reducible refine hW.mono ?_
            rintro e w4 ⟨rfl, v3, hD4, hF4, hP4⟩
            have HF : Hid (R = erL s3 (k + 1) true (l.drop (k + 1)) ∧ DT w4 base d v1 v3 s3 ∧ Good n (m + (k + 1)) s3 ∧ Fr (DS d v1 v2) w w4 ∧ (∀ q, DS d v1 v3 q → DS d v1 v2 q ∨ w.heap.size ≤ q) ∧ Strs w4 bl0 (.slice (some ⟨bq, 0, none⟩) l.length c) l ∧ ∀ q, (Value.slice (some ⟨bq, 0, none⟩) l.length c).ownBlock = some q → ¬ DS d v1 v3 q) := hidI
              ⟨hR2.out, hD4, HG.out, HI3.out.2.1.trans hF4 (fun q hq h1 => by
                rcases HI.out.2.2.2.2.1 q h1 with h2 | h2
                · exact h2
                · omega), fun q hq => by
                rcases hP4 q hq with h1 | h1
                · exact HI.out.2.2.2.2.1 q h1
                · exact .inr (Nat.le_trans HI3.out.2.1.size h1), HI3.out.2.2.fr hF4 (fun q hq => HI.out.2.2.2.2.2.2 q hq), fun q hq h1 => by
                rcases hP4 q h1 with h2 | h2
                · exact HI.out.2.2.2.2.2.2 q hq h2
                · have := HI3.out.2.2.lt hq; omega⟩
            clear hD4 hF4 hP4 hW
            simp only []
            go_wp2_with fail
            go_roundw
            · exact ⟨k + 1, true, s3, v3, by omega, by omega, by simp, rfl, HF⟩
            · simp [intOf]; omega
        · as_aux_lemma =>
            have hR2 : Hid (R = wrS s' k e64) := hidI (by rw [hR.out, if_neg hr])
            obtain ⟨r, hr1⟩ : ∃ r, r = (wrS s' k e64).1 := ⟨_, rfl⟩
            have hrne : (r != 0) = true := by rw [hr1]; simpa using hr
            have HR1 := hidI hr1
            clear hr1 hG' hr
            go_wp2_with fail
            refine start_ (n := 6) (S := fun w' => w'.cell? ⟨bq, k, none⟩ = some (.string x)) (ds := []) #[false, false, false, false, false, false] (by kernel_rfl) rfl rfl (q) (fun hHeld => ?_)
            refine pure_ (i := 0) (N := some 17) (v := ?_) (a' := ?_) #[true, false, false, false, false, false] rfl rfl (by kernel_rfl) (fun _ _ _ h => h) (Or.inl ⟨by rfl, ?_⟩) ?_ ?_
            rotate_left
            · intro w'
              go_simp
              with_reducible rfl
            rotate_left
            · simp only [Act.put, List.setIfInBounds_toArray, List.set_cons_zero, List.set_cons_succ, i64_w, i32_w]
              rfl
            refine pure_ (i := 1) (N := some 18) (v := ?_) (a' := ?_) #[true, true, false, false, false, false] rfl rfl (by kernel_rfl) (fun _ _ _ h => h) (Or.inl ⟨by rfl, ?_⟩) ?_ ?_
            rotate_left
            · intro w'
              go_simp
              with_reducible rfl
            rotate_left
            · simp only [Act.put, List.setIfInBounds_toArray, List.set_cons_zero, List.set_cons_succ, i64_w, i32_w]
              rfl
            refine pure_ (i := 2) (N := some 19) (v := ?_) (a' := ?_) #[true, true, true, false, false, false] rfl rfl (by kernel_rfl) (fun _ _ _ h => h) (Or.inl ⟨by rfl, ?_⟩) ?_ ?_
            rotate_left
            · intro w'
              go_simp
              with_reducible rfl
            rotate_left
            · simp only [Act.put, List.setIfInBounds_toArray, List.set_cons_zero, List.set_cons_succ, i64_w, i32_w]
              rfl
            refine take_ (i := 3) (N := some 20) (v := ?_) (a' := ?_) #[true, true, true, true, false, false] rfl rfl (by kernel_rfl) (fun _ _ _ h => h) (Or.inl ⟨by rfl, ?_⟩) hHeld ?_ ?_
            rotate_left
            · intro w' s0
              go_simp
              with_reducible rfl
            rotate_left
            · simp only [Act.put, List.setIfInBounds_toArray, List.set_cons_zero, List.set_cons_succ, i64_w, i32_w]
              rfl
            refine one_ (i := 4) (N := some 21) #[true, true, true, true, true, false] rfl rfl (by kernel_rfl) (by decide) (fun K hK => ?_)
            refine goes_ Try.func32 (by kernel_rfl) rfl #[] (by rfl) rfl rfl (by simp only [List.map_toArray, List.map_nil]) ?_
            with_reducible refine (empty_any _).mono ?_
            rintro e w2 ⟨rfl, hb2⟩
            refine ⟨_, rfl, ?_⟩
            refine hK.out _ _ (pw_cell_below hb2 hHeld) (fun hHeld => ?_)
            clear hK K
            refine norm_ (a' := ?_) ?_ ?_
            rotate_left
            · show Act.put _ (some 21) _ = _
              simp only [Act.put, List.setIfInBounds_toArray, List.set_cons_zero, List.set_cons_succ, i64_w, i32_w]
              rfl
            refine pure_ (i := 5) (N := some 22) (v := ?_) (a' := ?_) #[true, true, true, true, true, true] rfl rfl (by kernel_rfl) (fun _ _ _ h => h) (Or.inl ⟨by rfl, ?_⟩) ?_ ?_
            rotate_left
            · intro w'
              go_simp
              with_reducible rfl
            rotate_left
            · simp only [Act.put, List.setIfInBounds_toArray, List.set_cons_zero, List.set_cons_succ, i64_w, i32_w]
              rfl
            refine done_ (by kernel_rfl) ?_
            clear hHeld
            have HI2 : Hid (DT w2 base d v1 v2' s' ∧ Fr (DS d v1 v2) w w2 ∧ Strs w2 bl0 (.slice (some ⟨bq, 0, none⟩) l.length c) l) := hidI ⟨HI.out.2.1.below ((Below.refl wr.heap.size wr).drew.trans hb2), HI.out.2.2.2.1.drew.below hb2, HI.out.2.2.2.2.2.1.below ((Below.refl wr.heap.size wr).drew.trans hb2)⟩
            clear hb2
            go_wp2_with fail
            with_reducible refine (empty_any _).mono ?_
            rintro e w3 ⟨rfl, hb3⟩
            have HI3 : Hid (DT w3 base d v1 v2' s' ∧ Fr (DS d v1 v2) w w3) := hidI ⟨HI2.out.1.below hb3, HI2.out.2.1.below hb3⟩
            have hW := write_any base d v1 v2' s' (k : Int) e64 w3 HI3.out.1 (Nat.le_trans hb HI3.out.2.size) HI.out.2.2.1.fuse (by have := HI.out.2.2.1.few; omega)
            rw [← HR1.out] at hW
            clear hb3
            simp only []
            go_wp2_with fail
            with_reducible refine hW.mono ?_
            rintro e w4 ⟨rfl, v3, hD4, hF4, hP4⟩
            have hfin : Hid (MuP base d v1 v2 (.returned (.int .i64 R.1)) R.2 w (.returned (.int .i64 r)) w4) := hidI
              ⟨by rw [hR2.out, HR1.out], v3, by rw [hR2.out]; exact hD4, HI3.out.2.trans hF4 (fun q hq h1 => by
                rcases HI.out.2.2.2.2.1 q h1 with h2 | h2
                · exact h2
                · omega), fun q hq => by
                rcases hP4 q hq with h1 | h1
                · exact HI.out.2.2.2.2.1 q h1
                · exact .inr (Nat.le_trans HI3.out.2.size h1)⟩
            clear hD4 hF4 hP4 hW
            simp only []
            go_wp2_with fail
            go_ret
            exact hfin.out
    · have g1 : decide ((k : Int) < (l.length : Int)) = false := decide_eq_false (by omega)
      obtain rfl : k = l.length := by omega
      have hR : Hid (R = if bb = true then syS s' else (0, s')) := hidI (by
        rw [HI.out.1, List.drop_length]; rfl)
      cases bb
      · have hfin : Hid (MuP base d v1 v2 (.returned (.int .i64 R.1)) R.2 w (.returned (.int .i64 0)) wr) := hidI
          ⟨by rw [hR.out]; rfl, v2', by rw [hR.out]; exact HI.out.2.1, HI.out.2.2.2.1, HI.out.2.2.2.2.1⟩
        go_wp2_with fail
        go_ret
        exact hfin.out
      · have hS := sync_any base d v1 v2' s' wr HI.out.2.1 HI.out.2.2.1.fuse (by have := HI.out.2.2.1.few; omega) (by rw [HI.out.2.2.1.len]; exact HI.out.2.2.1.ins)
        obtain ⟨r, hr1⟩ : ∃ r, r = (syS s').1 := ⟨_, rfl⟩
        rw [← hr1] at hS
        have HR1 := hidI hr1
        clear hr1
        go_wp2_with fail
        with_reducible refine hS.mono ?_
        rintro e w4 ⟨rfl, v3, hD4, hF4, hP4⟩
        have hfin : Hid (MuP base d v1 v2 (.returned (.int .i64 R.1)) R.2 w (.returned (.int .i64 r)) w4) := hidI
          ⟨by rw [hR.out, HR1.out]; rfl, v3, by rw [hR.out]; exact hD4, HI.out.2.2.2.1.trans hF4 (fun q hq h1 => by
            rcases HI.out.2.2.2.2.1 q h1 with h2 | h2
            · exact h2
            · omega), fun q hq => by
            rcases hP4 q hq with h1 | h1
            · exact HI.out.2.2.2.2.1 q h1
            · exact .inr (Nat.le_trans HI.out.2.2.2.1.size h1)⟩
        clear hD4 hF4 hP4 hS
        simp only []
        go_wp2_with fail
        go_ret
        exact hfin.out
end Go.Proofs.Ytckfkbmefdmedaa
namespace Go.Proofs.Ytckfkbmefdmedaa
open Go.RowKit Go.Proofs.Kq Go.Proofs.Ytckfkbmefdmedaa.Q
open Go.Proofs.YtckfkbmefdmedaaW.PrintWords (pw_cell_below Kd Kd.C Kd.C_below Kd.R Kd.own_of_R)
open Go.Proofs.YtckfkbmefdmedaaW.PrintLast
set_option linter.unusedVariables false
set_option linter.unusedSimpArgs false
theorem strs_of_R {w : World} {base : Nat} {v : Value} {xs : List ByteArray} {ok : Nat → Prop} (h : Kd.R Kd.string 9 w base ok v xs) : Strs w base v xs := by
  have h2 := Kd.own_of_R (enc := Value.string) (h1 := fun _ => rfl) h
  unfold Strs Go.Proofs.Kq.Own
  rw [strs_encs]
  exact h2
def JB (w : World) (j d at_ cnt : Nat) : Prop := Blk w j #[.pointer (some ⟨d, 0, none⟩), .int .i64 at_, .int .i64 cnt] 144
def OpP (base d : Nat) (v1 v2 : Value) (R : List ByteArray) (a : Nat) (r : Int × DkS) (w : World) (e : Ending) (w' : World) : Prop :=
  ∃ v2' pj vr, e = .returned (.tuple #[pj, vr, .int .i64 r.1]) ∧ DT w' base d v1 v2' r.2 ∧ Fr (DS d v1 v2) w w' ∧ (∀ q, DS d v1 v2' q → DS d v1 v2 q ∨ w.heap.size ≤ q) ∧
    (r.1 = 0 → ∃ j, pj = .pointer (some ⟨j, 0, none⟩) ∧ w.heap.size ≤ j ∧ JB w' j d a R.length ∧ Strs w' w.heap.size vr R ∧ ∀ q, vr.ownBlock = some q → ¬ DS d v1 v2' q)
set_option maxHeartbeats 4000000 in
set_option maxRecDepth 100000 in
theorem open_any (base d : Nat) (v1 v2 : Value) (bs R : List ByteArray) (f : Int) (a m : Nat) (w : World) (h : DT w base d v1 v2 ⟨bs, [], f, false⟩) (hG : Good bs.length m ⟨bs, [], f, false⟩) (hb : base ≤ w.heap.size) (hl : bs.length ≤ 65536) (hm : m ≤ 1000000) (hR : RecsEnd bs R 0 0 a) :
    Calls Try.prog 43 #[.pointer (some ⟨d, 0, none⟩)] w (OpP base d v1 v2 R a (erL ⟨bs, [], f, false⟩ a false (bs.drop a)) w) := by
  obtain ⟨Z, hZ⟩ : ∃ Z, Z = erL ⟨bs, [], f, false⟩ a false (bs.drop a) := ⟨_, rfl⟩
  rw [← hZ]
  have HZ := hidI hZ
  have HD := hidI h
  have HR := hidI hR
  have HG := hidI hG
  have hle := hR.1.le (Nat.zero_le _)
  clear h hR hG hZ
  have hc0 := HD.out.blk.c; have hl0 := HD.out.blk.lt; have hf0 := HD.out.blk.f
  go_enter Try.func43, Try.ntmps43
  go_wp2_with fail
  with_reducible refine (dead_any base d v1 v2 _ w HD.out).mono ?_
  rintro e w1 ⟨rfl, hw1⟩
  subst hw1
  clear hc0 hl0 hf0
  simp only []
  go_wp2_with fail
  with_reducible refine (blocks_any base d v1 v2 bs f w1 HD.out (by omega)).mono ?_
  rintro e w2 ⟨vb, rfl, hS2, hb2⟩
  have HS2 := hidI hS2
  have HB2 := hidI hb2
  obtain ⟨A2, c2, rfl, hc2, hC2⟩ := strs_reads hS2
  obtain ⟨K, hK⟩ := EvT.one (jrec_ok (by omega) HR.out)
  have hRec := journal_Records.calls K A2 c2 bs R (a : Int) w2 hC2 hc2 hK
  clear hS2 hb2 hK hC2 hc2
  simp only []
  go_wp2_with fail
  with_reducible refine hRec.mono ?_
  rintro e w3 ⟨vr, rfl, hS3, hb3⟩
  have HS3 := hidI (strs_of_R hS3)
  have HB3 := hidI hb3
  have HD3 : Hid (DT w3 base d v1 v2 ⟨bs, [], f, false⟩) := hidI ((HD.out.below HB2.out).below hb3)
  have hE := erase_any base d v1 v2 ⟨bs, [], f, false⟩ bs.length m a w1.heap.size (.slice A2 bs.length c2) bs w3 HD3.out HG.out (Nat.le_trans hb (Nat.le_trans HB2.out.size hb3.size)) (HS2.out.below hb3)
    (fun q hq hn => by have h1 := HS2.out.ge hq; have h2 := DS_lt HD.out hn; omega) hle.2 hm (by omega)
  rw [← HZ.out] at hE
  obtain ⟨Ar, cr, hvr, _⟩ := HS3.out.slice_
  subst hvr
  obtain ⟨ze, zs⟩ := Z
  clear hS3 hb3 hRec
  simp only []
  go_wp2_with fail
  with_reducible refine hE.mono ?_
  rintro e w4 ⟨rfl, v3, hD4, hF4, hP4⟩
  have HS4 : Hid (Strs w4 w2.heap.size (.slice Ar R.length cr) R) := hidI (HS3.out.fr hF4 (fun q hq hn => by have h1 := HS3.out.ge hq; have h2 := DS_lt HD.out hn; have := HB2.out.size; omega))
  have HF4 : Hid (Fr (DS d v1 v2) w1 w4) := hidI (((Fr.of_below HB2.out).below HB3.out).trans hF4 (fun q hq h => h))
  have HD4 := hidI hD4
  have HP4 : Hid (∀ q, DS d v1 v3 q → DS d v1 v2 q ∨ w3.heap.size ≤ q) := hidI hP4
  have hs3 := Nat.le_trans HB2.out.size HB3.out.size
  have HP1 : Hid (∀ q, DS d v1 v3 q → DS d v1 v2 q ∨ w1.heap.size ≤ q) := hidI (fun q hq => by
    rcases HP4.out q hq with h1 | h1
    · exact .inl h1
    · exact .inr (by omega))
  clear hD4 hF4 hP4 hE
  by_cases hz : ze = 0
  · subst hz
    simp only []
    go_wp2_with fail
    have hfin : Hid (OpP base d v1 v2 R a (0, zs) w1 (.returned (.tuple #[.pointer (some ⟨w4.heap.size, 0, none⟩), .slice Ar R.length cr, .int .i64 0])) (w4.alloc (.cells #[.pointer (some ⟨d, 0, none⟩), .int .i64 a, .int .i64 R.length] 144))) := hidI
      ⟨v3, _, _, rfl, HD4.out.below (below_new (Below.refl _ _) _), HF4.out.alloc _, HP1.out, fun _ => ⟨_, rfl, HF4.out.size, Blk.new' rfl, (HS4.out.below (below_new (Below.refl _ _) _)).lower (Nat.le_trans HB2.out.size (Nat.le_refl _)), fun q hq hn => by
        rcases HP4.out q hn with h1 | h1
        · have h2 := HS3.out.ge hq; have h3 := DS_lt HD.out h1; have := HB2.out.size; omega
        · have h2 := HS3.out.lt hq; omega⟩⟩
    go_ret3
    exact hfin.out
  · have hz1 : (ze != 0) = true := by simpa using hz
    have hfin : Hid (OpP base d v1 v2 R a (ze, zs) w1 (.returned (.tuple #[.pointer none, .slice none 0 0, .int .i64 ze])) w4) := hidI
      ⟨v3, _, _, rfl, HD4.out, HF4.out, HP1.out, fun h0 => absurd h0 hz⟩
    clear hz
    simp only []
    go_wp2_with fail
    go_ret3
    exact hfin.out
theorem jlen_any (j d at_ cnt : Nat) (w : World) (h : JB w j d at_ cnt) (hc : cnt ≤ 1000000000) : Calls Try.prog 47 #[.pointer (some ⟨j, 0, none⟩)] w fun e w' => e = .returned (.int .i64 cnt) ∧ w' = w := by
  unfold JB at h
  have c0 := h.c; have l0 := h.lt; have f0 := h.f
  clear h
  go_enter Try.func47, Try.ntmps47
  go_wp2_with fail
  go_ret
  exact ⟨rfl, rfl⟩
end Go.Proofs.Ytckfkbmefdmedaa
namespace Go.Proofs.Ytckfkbmefdmedaa
open Go.RowKit Go.Proofs.Kq Go.Proofs.Ytckfkbmefdmedaa.Q
open Go.Proofs.YtckfkbmefdmedaaW.PrintWords (pw_cell_below Kd Kd.C Kd.C_below Kd.R Kd.own_of_R)
open Go.Proofs.YtckfkbmefdmedaaW.PrintLast
set_option linter.unusedVariables false
set_option linter.unusedSimpArgs false
def KB (w : World) (k g : Nat) (vr : Value) (a : Nat) : Prop := Blk w k #[.pointer (some ⟨g, 0, none⟩), vr, .int .i64 a] 77
def RoP (base g : Nat) (ua ub : Value) (R : List ByteArray) (a : Nat) (r : Int × DkS) (w : World) (e : Ending) (w' : World) : Prop :=
  ∃ ub' pj, e = .returned (.tuple #[pj, .int .i64 r.1]) ∧ ET w' base g ua ub' r.2 ∧ Fr (ES g ua ub) w w' ∧ (∀ q, ES g ua ub' q → ES g ua ub q ∨ w.heap.size ≤ q) ∧
    (r.1 = 0 → ∃ k vr, pj = .pointer (some ⟨k, 0, none⟩) ∧ w.heap.size ≤ k ∧ KB w' k g vr a ∧ Strs w' w.heap.size vr R ∧ ∀ q, vr.ownBlock = some q → ¬ ES g ua ub' q)
end Go.Proofs.Ytckfkbmefdmedaa
namespace Go.Proofs.Ytckfkbmefdmedaa
open Go.RowKit Go.Proofs.Kq Go.Proofs.Ytckfkbmefdmedaa.Q
open Go.Proofs.YtckfkbmefdmedaaW.PrintWords (pw_cell_below Kd Kd.C Kd.C_below Kd.R Kd.R_of_own Kd.R_reads encs encs_length rdOf)
set_option linter.unusedVariables false
set_option linter.unusedSimpArgs false
theorem OwnS.reads {w : World} {base : Nat} {v : Value} {xs : List ByteArray} (h : OwnS w base v xs) : ∃ A c, v = .slice A xs.length c ∧ xs.length ≤ c ∧ Kd.C Kd.string w A xs.length xs :=
  Kd.R_reads (Kd.R_of_own (enc := Value.string) (h1 := fun _ => rfl) (ok := fun _ => True) h (fun _ _ => trivial))
end Go.Proofs.Ytckfkbmefdmedaa
namespace Go.Proofs.Ytckfkbmefdmedaa
open Go.RowKit Go.Proofs.Kq Go.Proofs.Ytckfkbmefdmedaa.Q
open Go.Proofs.YtckfkbmefdmedaaW.PrintWords (pw_cell_below Kd Kd.C Kd.C_below Kd.R Kd.own_of_R)
open Go.Proofs.YtckfkbmefdmedaaW.PrintLast
set_option linter.unusedVariables false
set_option linter.unusedSimpArgs false
theorem pack_own (number : Int) (p : ByteArray) (l : List ByteArray) (r : Int) (w : World) (hp : p.size ≤ 1000000) (h : packF number (bl p) = (l, r)) : Calls Try.prog 16 #[.int .i64 number, .string p] w fun e w' => ∃ v, e = .returned (.tuple #[v, .int .i64 r]) ∧ Strs w' w.heap.size v l ∧ Below w.heap.size w w' := by
  obtain ⟨K, hK⟩ := EvT.one (pack_ok number p hp)
  refine (block_Pack.calls K number p l r w (by rw [hK, h])).mono ?_
  rintro e w' ⟨v, rfl, hR, hb⟩
  exact ⟨v, rfl, strs_of_R hR, hb⟩
theorem packF_err {n : Int} {L : List UInt8} (h : (packF n L).2 ≠ 0) : (packF n L).2 = 1 := by
  unfold packF at h ⊢
  split
  · rfl
  · rename_i h2; rw [if_neg h2] at h; exact absurd rfl h
set_option maxRecDepth 100000 in
theorem jleft_any (base j d at_ cnt : Nat) (v1 v2 : Value) (s : DkS) (w : World) (h : DT w base d v1 v2 s) (hJ : JB w j d at_ cnt) (hl : s.bs.length ≤ 1000000) (ha : at_ ≤ s.bs.length) :
    Calls Try.prog 48 #[.pointer (some ⟨j, 0, none⟩)] w fun e w' => e = .returned (.int .i64 ((s.bs.length - at_ : Nat) : Int)) ∧ w' = w.drew := by
  unfold JB at hJ
  have hLen := len_any base d v1 v2 s w.drew (h.below (Below.refl _ _).drew)
  have q1 : w.cell? ⟨j, 1, none⟩ = some (.int .i64 at_) := hJ.c 1
  have q0 : w.cell? ⟨j, 0, none⟩ = some (.pointer (some ⟨d, 0, none⟩)) := hJ.c 0
  have l0 := hJ.lt
  generalize s.bs.length = n at *
  have hs : wrap64 ((n : Int) - (at_ : Int)) = ((n - at_ : Nat) : Int) := by unfold wrap64; omega
  have hs2 : ((n : Int) - (at_ : Int)) = ((n - at_ : Nat) : Int) := by omega
  have HS := hidI hs
  have HS2 := hidI hs2
  clear hJ h hs hs2
  go_enter Try.func48, Try.ntmps48
  go_wp2_with fail
  refine start_ (n := 11) (S := fun w' => w'.cell? ⟨j, 1, none⟩ = some (.int .i64 at_) ∧ w'.cell? ⟨j, 0, none⟩ = some (.pointer (some ⟨d, 0, none⟩))) (ds := []) #[false, false, false, false, false, false, false, false, false, false, false] (by kernel_rfl) rfl rfl ⟨q1, q0⟩ (fun hHeld => ?_)
  refine pure_ (i := 0) (N := some 5) (v := ?_) (a' := ?_) #[true, false, false, false, false, false, false, false, false, false, false] rfl rfl (by kernel_rfl) (fun _ _ _ h => h) (Or.inl ⟨by rfl, ?_⟩) ?_ ?_
  rotate_left
  · intro w'
    go_simp
    with_reducible rfl
  rotate_left
  · simp only [Act.put, List.setIfInBounds_toArray, List.set_cons_zero, List.set_cons_succ, i64_w, i32_w]
    rfl
  refine pure_ (i := 1) (N := some 6) (v := ?_) (a' := ?_) #[true, true, false, false, false, false, false, false, false, false, false] rfl rfl (by kernel_rfl) (fun _ _ _ h => h) (Or.inl ⟨by rfl, ?_⟩) ?_ ?_
  rotate_left
  · intro w'
    go_simp
    with_reducible rfl
  rotate_left
  · simp only [Act.put, List.setIfInBounds_toArray, List.set_cons_zero, List.set_cons_succ, i64_w, i32_w]
    rfl
  refine pure_ (i := 2) (N := some 7) (v := ?_) (a' := ?_) #[true, true, true, false, false, false, false, false, false, false, false] rfl rfl (by kernel_rfl) (fun _ _ _ h => h) (Or.inl ⟨by rfl, ?_⟩) ?_ ?_
  rotate_left
  · intro w'
    go_simp
    with_reducible rfl
  rotate_left
  · simp only [Act.put, List.setIfInBounds_toArray, List.set_cons_zero, List.set_cons_succ, i64_w, i32_w]
    rfl
  refine pure_ (i := 5) (N := some 10) (v := ?_) (a' := ?_) #[true, true, true, false, false, true, false, false, false, false, false] rfl rfl (by kernel_rfl) (fun _ _ _ h => h) (Or.inl ⟨by rfl, ?_⟩) ?_ ?_
  rotate_left
  · intro w'
    go_simp
    with_reducible rfl
  rotate_left
  · simp only [Act.put, List.setIfInBounds_toArray, List.set_cons_zero, List.set_cons_succ, i64_w, i32_w]
    rfl
  refine pure_ (i := 6) (N := some 11) (v := ?_) (a' := ?_) #[true, true, true, false, false, true, true, false, false, false, false] rfl rfl (by kernel_rfl) (fun _ _ _ h => h) (Or.inl ⟨by rfl, ?_⟩) ?_ ?_
  rotate_left
  · intro w'
    go_simp
    with_reducible rfl
  rotate_left
  · simp only [Act.put, List.setIfInBounds_toArray, List.set_cons_zero, List.set_cons_succ, i64_w, i32_w]
    rfl
  refine pure_ (i := 7) (N := some 12) (v := ?_) (a' := ?_) #[true, true, true, false, false, true, true, true, false, false, false] rfl rfl (by kernel_rfl) (fun _ _ _ h => h) (Or.inl ⟨by rfl, ?_⟩) ?_ ?_
  rotate_left
  · intro w'
    go_simp
    with_reducible rfl
  rotate_left
  · simp only [Act.put, List.setIfInBounds_toArray, List.set_cons_zero, List.set_cons_succ, i64_w, i32_w]
    rfl
  refine take_ (i := 3) (N := some 8) (v := ?_) (a' := ?_) #[true, true, true, true, false, true, true, true, false, false, false] rfl rfl (by kernel_rfl) (fun _ _ _ h => h) (Or.inl ⟨by rfl, ?_⟩) hHeld ?_ ?_
  rotate_left
  · rintro w' ⟨s0, s1⟩
    go_simp
    with_reducible rfl
  rotate_left
  · simp only [Act.put, List.setIfInBounds_toArray, List.set_cons_zero, List.set_cons_succ, i64_w, i32_w]
    rfl
  refine take_ (i := 8) (N := some 13) (v := ?_) (a' := ?_) #[true, true, true, true, false, true, true, true, true, false, false] rfl rfl (by kernel_rfl) (fun _ _ _ h => h) (Or.inl ⟨by rfl, ?_⟩) hHeld ?_ ?_
  rotate_left
  · rintro w' ⟨s0, s1⟩
    go_simp
    with_reducible rfl
  rotate_left
  · simp only [Act.put, List.setIfInBounds_toArray, List.set_cons_zero, List.set_cons_succ, i64_w, i32_w]
    rfl
  refine one_ (i := 4) (N := some 9) #[true, true, true, true, true, true, true, true, true, false, false] rfl rfl (by kernel_rfl) (by decide) (fun K hK => ?_)
  refine goes_ Try.func33 (by kernel_rfl) rfl #[.pointer (some ⟨d, 0, none⟩)] (by rfl) rfl rfl (by simp only [List.map_toArray, List.map_cons, List.map_nil]; rfl) ?_
  with_reducible refine (hLen).mono ?_
  rintro e w3 ⟨rfl, hw3⟩
  subst hw3
  refine ⟨_, rfl, ?_⟩
  refine hK.out _ _ ⟨hHeld.1, hHeld.2⟩ (fun hHeld => ?_)
  clear hK K
  refine norm_ (a' := ?_) ?_ ?_
  rotate_left
  · show Act.put _ (some 9) _ = _
    simp only [Act.put, List.setIfInBounds_toArray, List.set_cons_zero, List.set_cons_succ, i64_w, i32_w]
    rfl
  refine pure_ (i := 9) (N := some 14) (v := ?_) (a' := ?_) #[true, true, true, true, true, true, true, true, true, true, false] rfl rfl (by kernel_rfl) (fun _ _ _ h => h) (Or.inl ⟨by rfl, ?_⟩) ?_ ?_
  rotate_left
  · intro w'
    go_simp
    with_reducible rfl
  rotate_left
  · simp only [Act.put, List.setIfInBounds_toArray, List.set_cons_zero, List.set_cons_succ, i64_w, i32_w]
    rfl
  refine pure_ (i := 10) (N := some 2) (v := ?_) (a' := ?_) #[true, true, true, true, true, true, true, true, true, true, true] rfl rfl (by kernel_rfl) (fun _ _ _ h => h) (Or.inl ⟨by rfl, ?_⟩) ?_ ?_
  rotate_left
  · intro w'
    go_simp
    with_reducible rfl
  rotate_left
  · simp only [Act.put, List.setIfInBounds_toArray, List.set_cons_zero, List.set_cons_succ, i64_w, i32_w]
    rfl
  refine done_ (by kernel_rfl) ?_
  clear hHeld
  go_wp2_with fail
  go_ret
  first | exact ⟨rfl, rfl⟩ | exact ⟨ret_int rfl, rfl⟩ | exact ⟨ret_int HS.out, rfl⟩ | exact ⟨ret_int HS2.out, rfl⟩
def ApP (base d j : Nat) (v1 v2 : Value) (at_ cnt len : Nat) (r : Int × DkS) (w : World) (e : Ending) (w' : World) : Prop :=
  e = .returned (.int .i64 r.1) ∧ ∃ v2', DT w' base d v1 v2' r.2 ∧ Fr (fun k => DS d v1 v2 k ∨ k = j) w w' ∧ (∀ q, DS d v1 v2' q → DS d v1 v2 q ∨ w.heap.size ≤ q) ∧ JB w' j d (if r.1 = 0 then at_ + len else at_) (if r.1 = 0 then cnt + 1 else cnt)
theorem apF_run (bs : List ByteArray) (ps : List Wr) (f : Int) (at_ cnt : Nat) (p : ByteArray) (l : List ByteArray) (h : packF cnt (bl p) = (l, 0)) (hn : ¬ bs.length < at_ + l.length) :
    apF ⟨bs, ps, f, false⟩ at_ cnt p = if (wrL ⟨bs, ps, f, false⟩ at_ l).1 = 0 then syS (wrL ⟨bs, ps, f, false⟩ at_ l).2 else wrL ⟨bs, ps, f, false⟩ at_ l := by
  unfold apF
  rw [if_neg (show ¬ (false = true) by decide), h, if_pos rfl]
  rw [if_neg hn]
theorem notDSj {w : World} {base d j : Nat} {v1 v2 : Value} {s : DkS} {cs : Array Value} (h : DT w base d v1 v2 s) (hJ : Blk w j cs 144) : ¬ DS d v1 v2 j := by
  rintro (e | hk | hk)
  · have a := h.blk; unfold Blk at a hJ; rw [← e, hJ] at a; cases a
  · exact h.own.ne hJ (by decide) hk
  · exact h.pend.ne hJ (by decide) hk
set_option maxHeartbeats 8000000 in
set_option maxRecDepth 100000 in
theorem jappend_any (base d j : Nat) (v1 v2 : Value) (s : DkS) (at_ cnt n m : Nat) (p : ByteArray) (w : World) (h : DT w base d v1 v2 s) (hJ : JB w j d at_ cnt) (hG : Good n m s) (hb : base ≤ w.heap.size) (hm : m ≤ 1000000) (hat : at_ ≤ 1000000) (hcnt : cnt ≤ 1000000) (hn : n ≤ 65536) (hp : p.size ≤ 1000000) :
    Calls Try.prog 45 #[.pointer (some ⟨j, 0, none⟩), .string p] w (ApP base d j v1 v2 at_ cnt (packF cnt (bl p)).1.length (apF s at_ cnt p) w) := by
  obtain ⟨bs, ps, fuse, dead⟩ := s
  unfold JB at hJ
  have q1 : w.cell? ⟨j, 1, none⟩ = some (.int .i64 at_) := hJ.c 1
  have q0 : w.cell? ⟨j, 0, none⟩ = some (.pointer (some ⟨d, 0, none⟩)) := hJ.c 0
  have q2 : w.cell? ⟨j, 2, none⟩ = some (.int .i64 cnt) := hJ.c 2
  have HD := hidI h
  have HG := hidI hG
  have HJ := hidI hJ
  have HNJ : Hid (¬ DS d v1 v2 j) := hidI (notDSj h hJ)
  have hnl : bs.length = n := hG.len
  have hdead := dead_any base d v1 v2 _ w h
  clear h hG hJ
  cases dead
  · obtain ⟨l, r, hpk⟩ : ∃ l r, packF cnt (bl p) = (l, r) := ⟨_, _, rfl⟩
    have hpo := pack_own (cnt : Int) p l r w hp hpk
    have hll : l.length ≤ 255 := by have := packF_len (n := (cnt : Int)) (L := bl p); rw [hpk] at this; exact this
    have hsz : Hid (∀ x ∈ l, x.size = 64) := hidI (by have := packF_size (n := (cnt : Int)) (L := bl p); rw [hpk] at this; exact this)
    have hplen : (packF cnt (bl p)).1.length = l.length := by rw [hpk]
    rw [hplen]
    by_cases hr : r = 0
    · subst hr
      by_cases hfull : bs.length < at_ + l.length
      · as_aux_lemma =>
          have hap : apF ⟨bs, ps, fuse, false⟩ at_ cnt p = (6, ⟨bs, ps, fuse, false⟩) := by
            unfold apF; rw [if_neg (show ¬ (false = true) by decide), hpk, if_pos rfl, if_pos hfull]
          have HAP := hidI hap
          have c1 : decide ((bs.length : Int) < (at_ : Int) + (l.length : Int)) = true := decide_eq_true (by omega)
          have c2 : decide ((bs.length : Int) < wrap64 ((at_ : Int) + (l.length : Int))) = true := decide_eq_true (by unfold wrap64; omega)
          have hLen : Hid (∀ W, Below w.heap.size w W → Calls Try.prog 33 #[.pointer (some ⟨d, 0, none⟩)] W fun e w' => e = .returned (.int .i64 bs.length) ∧ w' = W) := hidI (fun W hb => len_any base d v1 v2 _ W (HD.out.below hb))
          clear hap hnl hfull hplen hpk
          go_enter Try.func45, Try.ntmps45
          go_wp2_with fail
          with_reducible refine hdead.mono ?_
          rintro e w1 ⟨rfl, hw1⟩
          subst hw1
          simp only []
          go_wp2_with fail
          with_reducible refine hpo.mono ?_
          rintro e w2 ⟨vl, rfl, hS2, hb2⟩
          obtain ⟨Al, cl, rfl, _⟩ := hS2.slice_
          replace q1 := pw_cell_below hb2 q1
          replace q0 := pw_cell_below hb2 q0
          have HB2 := hidI hb2
          have hLen := hLen.out w2.drew (HB2.out.drew)
          clear hS2 hb2 q2 hdead hpo
          simp only []
          go_wp2_with fail
          refine start_ (n := 13) (S := fun w' => w'.cell? ⟨j, 1, none⟩ = some (.int .i64 at_) ∧ w'.cell? ⟨j, 0, none⟩ = some (.pointer (some ⟨d, 0, none⟩))) (ds := []) #[false, false, false, false, false, false, false, false, false, false, false, false, false] (by kernel_rfl) rfl rfl ⟨q1, q0⟩ (fun hHeld => ?_)
          refine pure_ (i := 0) (N := some 32) (v := ?_) (a' := ?_) #[true, false, false, false, false, false, false, false, false, false, false, false, false] rfl rfl (by kernel_rfl) (fun _ _ _ h => h) (Or.inl ⟨by rfl, ?_⟩) ?_ ?_
          rotate_left
          · intro w'
            go_simp
            with_reducible rfl
          rotate_left
          · simp only [Act.put, List.setIfInBounds_toArray, List.set_cons_zero, List.set_cons_succ, i64_w, i32_w]
            rfl
          refine pure_ (i := 1) (N := some 33) (v := ?_) (a' := ?_) #[true, true, false, false, false, false, false, false, false, false, false, false, false] rfl rfl (by kernel_rfl) (fun _ _ _ h => h) (Or.inl ⟨by rfl, ?_⟩) ?_ ?_
          rotate_left
          · intro w'
            go_simp
            with_reducible rfl
          rotate_left
          · simp only [Act.put, List.setIfInBounds_toArray, List.set_cons_zero, List.set_cons_succ, i64_w, i32_w]
            rfl
          refine pure_ (i := 2) (N := some 34) (v := ?_) (a' := ?_) #[true, true, true, false, false, false, false, false, false, false, false, false, false] rfl rfl (by kernel_rfl) (fun _ _ _ h => h) (Or.inl ⟨by rfl, ?_⟩) ?_ ?_
          rotate_left
          · intro w'
            go_simp
            with_reducible rfl
          rotate_left
          · simp only [Act.put, List.setIfInBounds_toArray, List.set_cons_zero, List.set_cons_succ, i64_w, i32_w]
            rfl
          refine pure_ (i := 4) (N := some 36) (v := ?_) (a' := ?_) #[true, true, true, false, true, false, false, false, false, false, false, false, false] rfl rfl (by kernel_rfl) (fun _ _ _ h => h) (Or.inl ⟨by rfl, ?_⟩) ?_ ?_
          rotate_left
          · intro w'
            go_simp
            with_reducible rfl
          rotate_left
          · simp only [Act.put, List.setIfInBounds_toArray, List.set_cons_zero, List.set_cons_succ, i64_w, i32_w]
            rfl
          refine pure_ (i := 5) (N := some 37) (v := ?_) (a' := ?_) #[true, true, true, false, true, true, false, false, false, false, false, false, false] rfl rfl (by kernel_rfl) (fun _ _ _ h => h) (Or.inl ⟨by rfl, ?_⟩) ?_ ?_
          rotate_left
          · intro w'
            go_simp
            with_reducible rfl
          rotate_left
          · simp only [Act.put, List.setIfInBounds_toArray, List.set_cons_zero, List.set_cons_succ, i64_w, i32_w]
            rfl
          refine pure_ (i := 7) (N := some 39) (v := ?_) (a' := ?_) #[true, true, true, false, true, true, false, true, false, false, false, false, false] rfl rfl (by kernel_rfl) (fun _ _ _ h => h) (Or.inl ⟨by rfl, ?_⟩) ?_ ?_
          rotate_left
          · intro w'
            go_simp
            with_reducible rfl
          rotate_left
          · simp only [Act.put, List.setIfInBounds_toArray, List.set_cons_zero, List.set_cons_succ, i64_w, i32_w]
            rfl
          refine pure_ (i := 8) (N := some 40) (v := ?_) (a' := ?_) #[true, true, true, false, true, true, false, true, true, false, false, false, false] rfl rfl (by kernel_rfl) (fun _ _ _ h => h) (Or.inl ⟨by rfl, ?_⟩) ?_ ?_
          rotate_left
          · intro w'
            go_simp
            with_reducible rfl
          rotate_left
          · simp only [Act.put, List.setIfInBounds_toArray, List.set_cons_zero, List.set_cons_succ, i64_w, i32_w]
            rfl
          refine pure_ (i := 9) (N := some 41) (v := ?_) (a' := ?_) #[true, true, true, false, true, true, false, true, true, true, false, false, false] rfl rfl (by kernel_rfl) (fun _ _ _ h => h) (Or.inl ⟨by rfl, ?_⟩) ?_ ?_
          rotate_left
          · intro w'
            go_simp
            with_reducible rfl
          rotate_left
          · simp only [Act.put, List.setIfInBounds_toArray, List.set_cons_zero, List.set_cons_succ, i64_w, i32_w]
            rfl
          refine take_ (i := 3) (N := some 35) (v := ?_) (a' := ?_) #[true, true, true, true, true, true, false, true, true, true, false, false, false] rfl rfl (by kernel_rfl) (fun _ _ _ h => h) (Or.inl ⟨by rfl, ?_⟩) hHeld ?_ ?_
          rotate_left
          · rintro w' ⟨s0, s1⟩
            go_simp
            with_reducible rfl
          rotate_left
          · simp only [Act.put, List.setIfInBounds_toArray, List.set_cons_zero, List.set_cons_succ, i64_w, i32_w]
            rfl
          refine pure_ (i := 6) (N := some 38) (v := ?_) (a' := ?_) #[true, true, true, true, true, true, true, true, true, true, false, false, false] rfl rfl (by kernel_rfl) (fun _ _ _ h => h) (Or.inl ⟨by rfl, ?_⟩) ?_ ?_
          rotate_left
          · intro w'
            go_simp
            with_reducible rfl
          rotate_left
          · simp only [Act.put, List.setIfInBounds_toArray, List.set_cons_zero, List.set_cons_succ, i64_w, i32_w]
            rfl
          refine take_ (i := 10) (N := some 42) (v := ?_) (a' := ?_) #[true, true, true, true, true, true, true, true, true, true, true, false, false] rfl rfl (by kernel_rfl) (fun _ _ _ h => h) (Or.inl ⟨by rfl, ?_⟩) hHeld ?_ ?_
          rotate_left
          · rintro w' ⟨s0, s1⟩
            go_simp
            with_reducible rfl
          rotate_left
          · simp only [Act.put, List.setIfInBounds_toArray, List.set_cons_zero, List.set_cons_succ, i64_w, i32_w]
            rfl
          refine one_ (i := 11) (N := some 43) #[true, true, true, true, true, true, true, true, true, true, true, true, false] rfl rfl (by kernel_rfl) (by decide) (fun K hK => ?_)
          refine goes_ Try.func33 (by kernel_rfl) rfl #[.pointer (some ⟨d, 0, none⟩)] (by rfl) rfl rfl (by simp only [List.map_toArray, List.map_cons, List.map_nil]; rfl) ?_
          with_reducible refine (hLen).mono ?_
          rintro e w3 ⟨rfl, hw3⟩
          subst hw3
          refine ⟨_, rfl, ?_⟩
          refine hK.out _ _ ⟨hHeld.1, hHeld.2⟩ (fun hHeld => ?_)
          clear hK K
          refine norm_ (a' := ?_) ?_ ?_
          rotate_left
          · show Act.put _ (some 43) _ = _
            simp only [Act.put, List.setIfInBounds_toArray, List.set_cons_zero, List.set_cons_succ, i64_w, i32_w]
            rfl
          refine pure_ (i := 12) (N := some 44) (v := ?_) (a' := ?_) #[true, true, true, true, true, true, true, true, true, true, true, true, true] rfl rfl (by kernel_rfl) (fun _ _ _ h => h) (Or.inl ⟨by rfl, ?_⟩) ?_ ?_
          rotate_left
          · intro w'
            go_simp
            with_reducible rfl
          rotate_left
          · simp only [Act.put, List.setIfInBounds_toArray, List.set_cons_zero, List.set_cons_succ, i64_w, i32_w]
            rfl
          refine done_ (by kernel_rfl) ?_
          have hfin : Hid (ApP base d j v1 v2 at_ cnt l.length (apF ⟨bs, ps, fuse, false⟩ at_ cnt p) w1 (.returned (.int .i64 6)) w2.drew) := hidI (by
            rw [HAP.out]
            exact ⟨rfl, v2, HD.out.below HB2.out.drew, (Fr.of_below HB2.out).drew, fun q hq => .inl hq, (HJ.out.be HB2.out).dr⟩)
          clear hHeld
          go_wp2_with fail
          go_ret
          exact hfin.out
      · obtain ⟨Z, hZ⟩ : ∃ Z, Z = wrL ⟨bs, ps, fuse, false⟩ at_ l := ⟨_, rfl⟩
        have hap := apF_run bs ps fuse at_ cnt p l hpk hfull
        rw [← hZ] at hap
        have HAP := hidI hap
        have HZ := hidI hZ
        have hfit : at_ + l.length ≤ n := by omega
        have c1 : decide ((bs.length : Int) < (at_ : Int) + (l.length : Int)) = false := decide_eq_false (by omega)
        have c2 : decide ((bs.length : Int) < wrap64 ((at_ : Int) + (l.length : Int))) = false := decide_eq_false (by unfold wrap64; omega)
        have hLen : Hid (∀ W, Below w.heap.size w W → Calls Try.prog 33 #[.pointer (some ⟨d, 0, none⟩)] W fun e w' => e = .returned (.int .i64 bs.length) ∧ w' = W) := hidI (fun W hb => len_any base d v1 v2 _ W (HD.out.below hb))
        clear hap hnl hfull hplen hpk hZ
        go_enter Try.func45, Try.ntmps45
        go_wp2_with fail
        with_reducible refine hdead.mono ?_
        rintro e w1 ⟨rfl, hw1⟩
        subst hw1
        simp only []
        go_wp2_with fail
        with_reducible refine hpo.mono ?_
        rintro e w2 ⟨vl, rfl, hS2, hb2⟩
        obtain ⟨Al, cl, rfl, _⟩ := hS2.slice_
        replace q1 := pw_cell_below hb2 q1
        replace q0 := pw_cell_below hb2 q0
        have HB2 := hidI hb2
        have HS2 := hidI hS2
        have hLen := hLen.out w2.drew (HB2.out.drew)
        clear hS2 hb2 q2 hdead hpo
        simp only []
        go_wp2_with fail
        refine start_ (n := 13) (S := fun w' => w'.cell? ⟨j, 1, none⟩ = some (.int .i64 at_) ∧ w'.cell? ⟨j, 0, none⟩ = some (.pointer (some ⟨d, 0, none⟩))) (ds := []) #[false, false, false, false, false, false, false, false, false, false, false, false, false] (by kernel_rfl) rfl rfl ⟨q1, q0⟩ (fun hHeld => ?_)
        refine pure_ (i := 0) (N := some 32) (v := ?_) (a' := ?_) #[true, false, false, false, false, false, false, false, false, false, false, false, false] rfl rfl (by kernel_rfl) (fun _ _ _ h => h) (Or.inl ⟨by rfl, ?_⟩) ?_ ?_
        rotate_left
        · intro w'
          go_simp
          with_reducible rfl
        rotate_left
        · simp only [Act.put, List.setIfInBounds_toArray, List.set_cons_zero, List.set_cons_succ, i64_w, i32_w]
          rfl
        refine pure_ (i := 1) (N := some 33) (v := ?_) (a' := ?_) #[true, true, false, false, false, false, false, false, false, false, false, false, false] rfl rfl (by kernel_rfl) (fun _ _ _ h => h) (Or.inl ⟨by rfl, ?_⟩) ?_ ?_
        rotate_left
        · intro w'
          go_simp
          with_reducible rfl
        rotate_left
        · simp only [Act.put, List.setIfInBounds_toArray, List.set_cons_zero, List.set_cons_succ, i64_w, i32_w]
          rfl
        refine pure_ (i := 2) (N := some 34) (v := ?_) (a' := ?_) #[true, true, true, false, false, false, false, false, false, false, false, false, false] rfl rfl (by kernel_rfl) (fun _ _ _ h => h) (Or.inl ⟨by rfl, ?_⟩) ?_ ?_
        rotate_left
        · intro w'
          go_simp
          with_reducible rfl
        rotate_left
        · simp only [Act.put, List.setIfInBounds_toArray, List.set_cons_zero, List.set_cons_succ, i64_w, i32_w]
          rfl
        refine pure_ (i := 4) (N := some 36) (v := ?_) (a' := ?_) #[true, true, true, false, true, false, false, false, false, false, false, false, false] rfl rfl (by kernel_rfl) (fun _ _ _ h => h) (Or.inl ⟨by rfl, ?_⟩) ?_ ?_
        rotate_left
        · intro w'
          go_simp
          with_reducible rfl
        rotate_left
        · simp only [Act.put, List.setIfInBounds_toArray, List.set_cons_zero, List.set_cons_succ, i64_w, i32_w]
          rfl
        refine pure_ (i := 5) (N := some 37) (v := ?_) (a' := ?_) #[true, true, true, false, true, true, false, false, false, false, false, false, false] rfl rfl (by kernel_rfl) (fun _ _ _ h => h) (Or.inl ⟨by rfl, ?_⟩) ?_ ?_
        rotate_left
        · intro w'
          go_simp
          with_reducible rfl
        rotate_left
        · simp only [Act.put, List.setIfInBounds_toArray, List.set_cons_zero, List.set_cons_succ, i64_w, i32_w]
          rfl
        refine pure_ (i := 7) (N := some 39) (v := ?_) (a' := ?_) #[true, true, true, false, true, true, false, true, false, false, false, false, false] rfl rfl (by kernel_rfl) (fun _ _ _ h => h) (Or.inl ⟨by rfl, ?_⟩) ?_ ?_
        rotate_left
        · intro w'
          go_simp
          with_reducible rfl
        rotate_left
        · simp only [Act.put, List.setIfInBounds_toArray, List.set_cons_zero, List.set_cons_succ, i64_w, i32_w]
          rfl
        refine pure_ (i := 8) (N := some 40) (v := ?_) (a' := ?_) #[true, true, true, false, true, true, false, true, true, false, false, false, false] rfl rfl (by kernel_rfl) (fun _ _ _ h => h) (Or.inl ⟨by rfl, ?_⟩) ?_ ?_
        rotate_left
        · intro w'
          go_simp
          with_reducible rfl
        rotate_left
        · simp only [Act.put, List.setIfInBounds_toArray, List.set_cons_zero, List.set_cons_succ, i64_w, i32_w]
          rfl
        refine pure_ (i := 9) (N := some 41) (v := ?_) (a' := ?_) #[true, true, true, false, true, true, false, true, true, true, false, false, false] rfl rfl (by kernel_rfl) (fun _ _ _ h => h) (Or.inl ⟨by rfl, ?_⟩) ?_ ?_
        rotate_left
        · intro w'
          go_simp
          with_reducible rfl
        rotate_left
        · simp only [Act.put, List.setIfInBounds_toArray, List.set_cons_zero, List.set_cons_succ, i64_w, i32_w]
          rfl
        refine take_ (i := 3) (N := some 35) (v := ?_) (a' := ?_) #[true, true, true, true, true, true, false, true, true, true, false, false, false] rfl rfl (by kernel_rfl) (fun _ _ _ h => h) (Or.inl ⟨by rfl, ?_⟩) hHeld ?_ ?_
        rotate_left
        · rintro w' ⟨s0, s1⟩
          go_simp
          with_reducible rfl
        rotate_left
        · simp only [Act.put, List.setIfInBounds_toArray, List.set_cons_zero, List.set_cons_succ, i64_w, i32_w]
          rfl
        refine pure_ (i := 6) (N := some 38) (v := ?_) (a' := ?_) #[true, true, true, true, true, true, true, true, true, true, false, false, false] rfl rfl (by kernel_rfl) (fun _ _ _ h => h) (Or.inl ⟨by rfl, ?_⟩) ?_ ?_
        rotate_left
        · intro w'
          go_simp
          with_reducible rfl
        rotate_left
        · simp only [Act.put, List.setIfInBounds_toArray, List.set_cons_zero, List.set_cons_succ, i64_w, i32_w]
          rfl
        refine take_ (i := 10) (N := some 42) (v := ?_) (a' := ?_) #[true, true, true, true, true, true, true, true, true, true, true, false, false] rfl rfl (by kernel_rfl) (fun _ _ _ h => h) (Or.inl ⟨by rfl, ?_⟩) hHeld ?_ ?_
        rotate_left
        · rintro w' ⟨s0, s1⟩
          go_simp
          with_reducible rfl
        rotate_left
        · simp only [Act.put, List.setIfInBounds_toArray, List.set_cons_zero, List.set_cons_succ, i64_w, i32_w]
          rfl
        refine one_ (i := 11) (N := some 43) #[true, true, true, true, true, true, true, true, true, true, true, true, false] rfl rfl (by kernel_rfl) (by decide) (fun K hK => ?_)
        refine goes_ Try.func33 (by kernel_rfl) rfl #[.pointer (some ⟨d, 0, none⟩)] (by rfl) rfl rfl (by simp only [List.map_toArray, List.map_cons, List.map_nil]; rfl) ?_
        with_reducible refine (hLen).mono ?_
        rintro e w3 ⟨rfl, hw3⟩
        subst hw3
        refine ⟨_, rfl, ?_⟩
        refine hK.out _ _ ⟨hHeld.1, hHeld.2⟩ (fun hHeld => ?_)
        clear hK K
        refine norm_ (a' := ?_) ?_ ?_
        rotate_left
        · show Act.put _ (some 43) _ = _
          simp only [Act.put, List.setIfInBounds_toArray, List.set_cons_zero, List.set_cons_succ, i64_w, i32_w]
          rfl
        refine pure_ (i := 12) (N := some 44) (v := ?_) (a' := ?_) #[true, true, true, true, true, true, true, true, true, true, true, true, true] rfl rfl (by kernel_rfl) (fun _ _ _ h => h) (Or.inl ⟨by rfl, ?_⟩) ?_ ?_
        rotate_left
        · intro w'
          go_simp
          with_reducible rfl
        rotate_left
        · simp only [Act.put, List.setIfInBounds_toArray, List.set_cons_zero, List.set_cons_succ, i64_w, i32_w]
          rfl
        refine done_ (by kernel_rfl) ?_
        have H0 : Hid (Z = wrL ⟨bs, ps, fuse, false⟩ (at_ + 0) (l.drop 0) ∧ DT w2.drew base d v1 v2 ⟨bs, ps, fuse, false⟩ ∧ Good n (m + 0) ⟨bs, ps, fuse, false⟩ ∧ Fr (DS d v1 v2) w1 w2.drew ∧ (∀ q, DS d v1 v2 q → DS d v1 v2 q ∨ w1.heap.size ≤ q) ∧ Blk w2.drew j #[.pointer (some ⟨d, 0, none⟩), .int .i64 at_, .int .i64 cnt] 144 ∧ Strs w2.drew w1.heap.size (.slice Al l.length cl) l ∧ (∀ q, (Value.slice Al l.length cl).ownBlock = some q → ¬ DS d v1 v2 q) ∧ ¬ DS d v1 v2 j) := hidI
          ⟨HZ.out, HD.out.below HB2.out.drew, HG.out, (Fr.of_below HB2.out).drew, fun q hq => .inl hq, (HJ.out.be HB2.out).dr, HS2.out.drew, fun q hq hk => by have h1 := HS2.out.ge hq; have h2 := DS_lt HD.out hk; omega, HNJ.out⟩
        clear hHeld q1 q0 HNJ HJ hLen c1 c2 HS2 HB2
        generalize w2.drew = w2 at *
        go_wp2_with fail
        go_loopw [47] (fun i wr => ∃ (k : Nat) (s' : DkS) (v2' : Value), k ≤ l.length ∧ i = .int .i64 k ∧ Hid (Z = wrL s' (at_ + k) (l.drop k) ∧ DT wr base d v1 v2' s' ∧ Good n (m + k) s' ∧ Fr (DS d v1 v2) w1 wr ∧ (∀ q, DS d v1 v2' q → DS d v1 v2 q ∨ w1.heap.size ≤ q) ∧ Blk wr j #[.pointer (some ⟨d, 0, none⟩), .int .i64 at_, .int .i64 cnt] 144 ∧ Strs wr w1.heap.size (.slice Al l.length cl) l ∧ (∀ q, (Value.slice Al l.length cl).ownBlock = some q → ¬ DS d v1 v2' q) ∧ ¬ DS d v1 v2' j)) (fun i _ => l.length - (intOf i).toNat)
        case atStart => exact ⟨0, _, v2, Nat.zero_le _, rfl, H0⟩
        case round =>
          obtain ⟨k, s', v2', hk, rfl, HI⟩ := hrel
          clear H0
          have q1 : wr.cell? ⟨j, 1, none⟩ = some (.int .i64 at_) := HI.out.2.2.2.2.2.1.c 1
          have q0 : wr.cell? ⟨j, 0, none⟩ = some (.pointer (some ⟨d, 0, none⟩)) := HI.out.2.2.2.2.2.1.c 0
          by_cases hlt : k < l.length
          · have g1 : decide ((k : Int) < (l.length : Int)) = true := decide_eq_true (by omega)
            obtain ⟨bq, rfl⟩ : ∃ bq, Al = some ⟨bq, 0, none⟩ := by
              rcases HI.out.2.2.2.2.2.2.1.cases_ with ⟨e, h⟩ | ⟨b, c', e, _⟩
              · rw [h] at hlt; simp at hlt
              · injection e with e1; exact ⟨b, e1⟩
            have q := (str_at HI.out.2.2.2.2.2.2.1 k hlt).1
            obtain ⟨x, hx⟩ : ∃ x, x = l[k] := ⟨_, rfl⟩
            rw [← hx] at q
            have HX : Hid (l.drop k = x :: l.drop (k + 1)) := hidI (by rw [hx]; exact List.drop_eq_getElem_cons hlt)
            clear hx
            have hR : Hid (Z = if (wrS s' ((at_ + k : Nat) : Int) x).1 = 0 then wrL (wrS s' ((at_ + k : Nat) : Int) x).2 (at_ + k + 1) (l.drop (k + 1)) else wrS s' ((at_ + k : Nat) : Int) x) := hidI (by
              rw [HI.out.1, HX.out]
              conv => lhs; unfold wrL)
            have hG' := wrS_good HI.out.2.2.1 ((at_ + k : Nat) : Int) x
            have HWR : Hid (wrap64 ((at_ : Int) + (k : Int)) = ((at_ + k : Nat) : Int)) := hidI (by unfold wrap64; omega)
            have HNJ : Hid (¬ DS d v1 v2' j) := hidI HI.out.2.2.2.2.2.2.2.2
            have hW := write_any base d v1 v2' s' ((at_ + k : Nat) : Int) x wr.drew (HI.out.2.1.below (Below.refl _ _).drew) (Nat.le_trans hb HI.out.2.2.2.1.size) HI.out.2.2.1.fuse (by have := HI.out.2.2.1.few; omega)
            by_cases hr : (wrS s' ((at_ + k : Nat) : Int) x).1 = 0
            · as_aux_lemma =>
                have hR2 : Hid (Z = wrL (wrS s' ((at_ + k : Nat) : Int) x).2 (at_ + k + 1) (l.drop (k + 1))) := hidI (by rw [hR.out, if_pos hr])
                rw [hr] at hW
                obtain ⟨s3, hs3⟩ : ∃ s3, s3 = (wrS s' ((at_ + k : Nat) : Int) x).2 := ⟨_, rfl⟩
                rw [← hs3] at hR2 hG' hW
                have HG3 := hidI hG'
                clear hs3 hG' hr
                go_wp2_with fail
                refine start_ (n := 13) (S := fun w' => w'.cell? ⟨j, 1, none⟩ = some (.int .i64 at_) ∧ w'.cell? ⟨j, 0, none⟩ = some (.pointer (some ⟨d, 0, none⟩))) (ds := []) #[false, false, false, false, false, false, false, false, false, false, false, false, false] (by kernel_rfl) rfl rfl ⟨q1, q0⟩ (fun hHeld => ?_)
                refine pure_ (i := 0) (N := some 52) (v := ?_) (a' := ?_) #[true, false, false, false, false, false, false, false, false, false, false, false, false] rfl rfl (by kernel_rfl) (fun _ _ _ h => h) (Or.inl ⟨by rfl, ?_⟩) ?_ ?_
                rotate_left
                · intro w'
                  go_simp
                  with_reducible rfl
                rotate_left
                · simp only [Act.put, List.setIfInBounds_toArray, List.set_cons_zero, List.set_cons_succ, i64_w, i32_w]
                  rfl
                refine pure_ (i := 1) (N := some 53) (v := ?_) (a' := ?_) #[true, true, false, false, false, false, false, false, false, false, false, false, false] rfl rfl (by kernel_rfl) (fun _ _ _ h => h) (Or.inl ⟨by rfl, ?_⟩) ?_ ?_
                rotate_left
                · intro w'
                  go_simp
                  with_reducible rfl
                rotate_left
                · simp only [Act.put, List.setIfInBounds_toArray, List.set_cons_zero, List.set_cons_succ, i64_w, i32_w]
                  rfl
                refine pure_ (i := 2) (N := some 54) (v := ?_) (a' := ?_) #[true, true, true, false, false, false, false, false, false, false, false, false, false] rfl rfl (by kernel_rfl) (fun _ _ _ h => h) (Or.inl ⟨by rfl, ?_⟩) ?_ ?_
                rotate_left
                · intro w'
                  go_simp
                  with_reducible rfl
                rotate_left
                · simp only [Act.put, List.setIfInBounds_toArray, List.set_cons_zero, List.set_cons_succ, i64_w, i32_w]
                  rfl
                refine pure_ (i := 4) (N := some 56) (v := ?_) (a' := ?_) #[true, true, true, false, true, false, false, false, false, false, false, false, false] rfl rfl (by kernel_rfl) (fun _ _ _ h => h) (Or.inl ⟨by rfl, ?_⟩) ?_ ?_
                rotate_left
                · intro w'
                  go_simp
                  with_reducible rfl
                rotate_left
                · simp only [Act.put, List.setIfInBounds_toArray, List.set_cons_zero, List.set_cons_succ, i64_w, i32_w]
                  rfl
                refine pure_ (i := 5) (N := some 57) (v := ?_) (a' := ?_) #[true, true, true, false, true, true, false, false, false, false, false, false, false] rfl rfl (by kernel_rfl) (fun _ _ _ h => h) (Or.inl ⟨by rfl, ?_⟩) ?_ ?_
                rotate_left
                · intro w'
                  go_simp
                  with_reducible rfl
                rotate_left
                · simp only [Act.put, List.setIfInBounds_toArray, List.set_cons_zero, List.set_cons_succ, i64_w, i32_w]
                  rfl
                refine pure_ (i := 6) (N := some 58) (v := ?_) (a' := ?_) #[true, true, true, false, true, true, true, false, false, false, false, false, false] rfl rfl (by kernel_rfl) (fun _ _ _ h => h) (Or.inl ⟨by rfl, ?_⟩) ?_ ?_
                rotate_left
                · intro w'
                  go_simp
                  with_reducible rfl
                rotate_left
                · simp only [Act.put, List.setIfInBounds_toArray, List.set_cons_zero, List.set_cons_succ, i64_w, i32_w]
                  rfl
                refine pure_ (i := 8) (N := some 60) (v := ?_) (a' := ?_) #[true, true, true, false, true, true, true, false, true, false, false, false, false] rfl rfl (by kernel_rfl) (fun _ _ _ h => h) (Or.inl ⟨by rfl, ?_⟩) ?_ ?_
                rotate_left
                · intro w'
                  go_simp
                  with_reducible rfl
                rotate_left
                · simp only [Act.put, List.setIfInBounds_toArray, List.set_cons_zero, List.set_cons_succ, i64_w, i32_w]
                  rfl
                refine pure_ (i := 10) (N := some 62) (v := ?_) (a' := ?_) #[true, true, true, false, true, true, true, false, true, false, true, false, false] rfl rfl (by kernel_rfl) (fun _ _ _ h => h) (Or.inl ⟨by rfl, ?_⟩) ?_ ?_
                rotate_left
                · intro w'
                  go_simp
                  with_reducible rfl
                rotate_left
                · simp only [Act.put, List.setIfInBounds_toArray, List.set_cons_zero, List.set_cons_succ, i64_w, i32_w]
                  rfl
                refine take_ (i := 3) (N := some 55) (v := ?_) (a' := ?_) #[true, true, true, true, true, true, true, false, true, false, true, false, false] rfl rfl (by kernel_rfl) (fun _ _ _ h => h) (Or.inl ⟨by rfl, ?_⟩) hHeld ?_ ?_
                rotate_left
                · rintro w' ⟨s0, s1⟩
                  go_simp
                  with_reducible rfl
                rotate_left
                · simp only [Act.put, List.setIfInBounds_toArray, List.set_cons_zero, List.set_cons_succ, i64_w, i32_w]
                  rfl
                refine take_ (i := 7) (N := some 59) (v := ?_) (a' := ?_) #[true, true, true, true, true, true, true, true, true, false, true, false, false] rfl rfl (by kernel_rfl) (fun _ _ _ h => h) (Or.inl ⟨by rfl, ?_⟩) hHeld ?_ ?_
                rotate_left
                · rintro w' ⟨s0, s1⟩
                  go_simp
                  with_reducible rfl
                rotate_left
                · simp only [Act.put, List.setIfInBounds_toArray, List.set_cons_zero, List.set_cons_succ, i64_w, i32_w]
                  rfl
                refine pure_ (i := 9) (N := some 61) (v := ?_) (a' := ?_) #[true, true, true, true, true, true, true, true, true, true, true, false, false] rfl rfl (by kernel_rfl) (fun _ _ _ h => h) (Or.inl ⟨by rfl, ?_⟩) ?_ ?_
                rotate_left
                · intro w'
                  go_simp
                  with_reducible rfl
                rotate_left
                · simp only [Act.put, List.setIfInBounds_toArray, List.set_cons_zero, List.set_cons_succ, i64_w, i32_w]
                  rfl
                refine one_ (i := 11) (N := some 63) #[true, true, true, true, true, true, true, true, true, true, true, true, false] rfl rfl (by kernel_rfl) (by decide) (fun K hK => ?_)
                refine goes_ Try.func26 (by kernel_rfl) rfl #[.pointer (some ⟨d, 0, none⟩), .int .i64 ((at_ + k : Nat) : Int), .string x] (by rfl) rfl rfl (Eq.trans (b := #[.pointer (some ⟨d, 0, none⟩), .int .i64 (wrap64 ((at_ : Int) + (k : Int))), .string x]) (by simp only [List.map_toArray, List.map_cons, List.map_nil]; rfl) (by rw [HWR.out])) ?_
                with_reducible refine (hW).mono ?_
                intro e w3 hM
                obtain ⟨rfl, v3, hD3, hF3, hP3⟩ := hM
                have hJ3 := hF3.blk HI.out.2.2.2.2.2.1 HNJ.out
                have z1 : w3.cell? ⟨j, 1, none⟩ = some (.int .i64 at_) := Blk.c hJ3 1
                have z0 : w3.cell? ⟨j, 0, none⟩ = some (.pointer (some ⟨d, 0, none⟩)) := Blk.c hJ3 0
                refine ⟨_, rfl, ?_⟩
                refine hK.out _ _ ⟨z1, z0⟩ (fun hHeld => ?_)
                clear hK K
                refine norm_ (a' := ?_) ?_ ?_
                rotate_left
                · show Act.put _ (some 63) _ = _
                  simp only [Act.put, List.setIfInBounds_toArray, List.set_cons_zero, List.set_cons_succ, i64_w, i32_w]
                  rfl
                refine pure_ (i := 12) (N := some 9) (v := ?_) (a' := ?_) #[true, true, true, true, true, true, true, true, true, true, true, true, true] rfl rfl (by kernel_rfl) (fun _ _ _ h => h) (Or.inl ⟨by rfl, ?_⟩) ?_ ?_
                rotate_left
                · intro w'
                  go_simp
                  with_reducible rfl
                rotate_left
                · simp only [Act.put, List.setIfInBounds_toArray, List.set_cons_zero, List.set_cons_succ, i64_w, i32_w]
                  rfl
                refine done_ (by kernel_rfl) ?_
                clear hHeld
                have HF : Hid (Z = wrL s3 (at_ + (k + 1)) (l.drop (k + 1)) ∧ DT w3 base d v1 v3 s3 ∧ Good n (m + (k + 1)) s3 ∧ Fr (DS d v1 v2) w1 w3 ∧ (∀ q, DS d v1 v3 q → DS d v1 v2 q ∨ w1.heap.size ≤ q) ∧ Blk w3 j #[.pointer (some ⟨d, 0, none⟩), .int .i64 at_, .int .i64 cnt] 144 ∧ Strs w3 w1.heap.size (.slice (some ⟨bq, 0, none⟩) l.length cl) l ∧ (∀ q, (Value.slice (some ⟨bq, 0, none⟩) l.length cl).ownBlock = some q → ¬ DS d v1 v3 q) ∧ ¬ DS d v1 v3 j) := hidI
                  ⟨hR2.out, hD3, HG3.out, HI.out.2.2.2.1.drew.trans hF3 (fun q hq h1 => by
                    rcases HI.out.2.2.2.2.1 q h1 with h2 | h2
                    · exact h2
                    · omega), fun q hq => by
                    rcases hP3 q hq with h1 | h1
                    · exact HI.out.2.2.2.2.1 q h1
                    · exact .inr (Nat.le_trans HI.out.2.2.2.1.size h1), hJ3, HI.out.2.2.2.2.2.2.1.drew.fr hF3 (fun q hq => HI.out.2.2.2.2.2.2.2.1 q hq), fun q hq h1 => by
                    rcases hP3 q h1 with h2 | h2
                    · exact HI.out.2.2.2.2.2.2.2.1 q hq h2
                    · have := HI.out.2.2.2.2.2.2.1.drew.lt hq; omega, fun h1 => by
                    rcases hP3 j h1 with h2 | h2
                    · exact HNJ.out h2
                    · have := HI.out.2.2.2.2.2.1.dr.lt; omega⟩
                clear hD3 hF3 hP3 hW hJ3 z1 z0 q1 q0 q
                go_wp2_with fail
                go_roundw
                · exact ⟨k + 1, s3, v3, by omega, by simp, HF⟩
                · simp [intOf]; omega
            · as_aux_lemma =>
                have hR2 : Hid (Z = wrS s' ((at_ + k : Nat) : Int) x) := hidI (by rw [hR.out, if_neg hr])
                rw [← hR2.out] at hW hr
                obtain ⟨z1_, z2_⟩ := Z
                have hrne : (z1_ != 0) = true := by simpa using hr
                have HRN : Hid (¬ z1_ = 0) := hidI hr
                simp only at hW
                clear hr hG'
                go_wp2_with fail
                refine start_ (n := 13) (S := fun w' => w'.cell? ⟨j, 1, none⟩ = some (.int .i64 at_) ∧ w'.cell? ⟨j, 0, none⟩ = some (.pointer (some ⟨d, 0, none⟩))) (ds := []) #[false, false, false, false, false, false, false, false, false, false, false, false, false] (by kernel_rfl) rfl rfl ⟨q1, q0⟩ (fun hHeld => ?_)
                refine pure_ (i := 0) (N := some 52) (v := ?_) (a' := ?_) #[true, false, false, false, false, false, false, false, false, false, false, false, false] rfl rfl (by kernel_rfl) (fun _ _ _ h => h) (Or.inl ⟨by rfl, ?_⟩) ?_ ?_
                rotate_left
                · intro w'
                  go_simp
                  with_reducible rfl
                rotate_left
                · simp only [Act.put, List.setIfInBounds_toArray, List.set_cons_zero, List.set_cons_succ, i64_w, i32_w]
                  rfl
                refine pure_ (i := 1) (N := some 53) (v := ?_) (a' := ?_) #[true, true, false, false, false, false, false, false, false, false, false, false, false] rfl rfl (by kernel_rfl) (fun _ _ _ h => h) (Or.inl ⟨by rfl, ?_⟩) ?_ ?_
                rotate_left
                · intro w'
                  go_simp
                  with_reducible rfl
                rotate_left
                · simp only [Act.put, List.setIfInBounds_toArray, List.set_cons_zero, List.set_cons_succ, i64_w, i32_w]
                  rfl
                refine pure_ (i := 2) (N := some 54) (v := ?_) (a' := ?_) #[true, true, true, false, false, false, false, false, false, false, false, false, false] rfl rfl (by kernel_rfl) (fun _ _ _ h => h) (Or.inl ⟨by rfl, ?_⟩) ?_ ?_
                rotate_left
                · intro w'
                  go_simp
                  with_reducible rfl
                rotate_left
                · simp only [Act.put, List.setIfInBounds_toArray, List.set_cons_zero, List.set_cons_succ, i64_w, i32_w]
                  rfl
                refine pure_ (i := 4) (N := some 56) (v := ?_) (a' := ?_) #[true, true, true, false, true, false, false, false, false, false, false, false, false] rfl rfl (by kernel_rfl) (fun _ _ _ h => h) (Or.inl ⟨by rfl, ?_⟩) ?_ ?_
                rotate_left
                · intro w'
                  go_simp
                  with_reducible rfl
                rotate_left
                · simp only [Act.put, List.setIfInBounds_toArray, List.set_cons_zero, List.set_cons_succ, i64_w, i32_w]
                  rfl
                refine pure_ (i := 5) (N := some 57) (v := ?_) (a' := ?_) #[true, true, true, false, true, true, false, false, false, false, false, false, false] rfl rfl (by kernel_rfl) (fun _ _ _ h => h) (Or.inl ⟨by rfl, ?_⟩) ?_ ?_
                rotate_left
                · intro w'
                  go_simp
                  with_reducible rfl
                rotate_left
                · simp only [Act.put, List.setIfInBounds_toArray, List.set_cons_zero, List.set_cons_succ, i64_w, i32_w]
                  rfl
                refine pure_ (i := 6) (N := some 58) (v := ?_) (a' := ?_) #[true, true, true, false, true, true, true, false, false, false, false, false, false] rfl rfl (by kernel_rfl) (fun _ _ _ h => h) (Or.inl ⟨by rfl, ?_⟩) ?_ ?_
                rotate_left
                · intro w'
                  go_simp
                  with_reducible rfl
                rotate_left
                · simp only [Act.put, List.setIfInBounds_toArray, List.set_cons_zero, List.set_cons_succ, i64_w, i32_w]
                  rfl
                refine pure_ (i := 8) (N := some 60) (v := ?_) (a' := ?_) #[true, true, true, false, true, true, true, false, true, false, false, false, false] rfl rfl (by kernel_rfl) (fun _ _ _ h => h) (Or.inl ⟨by rfl, ?_⟩) ?_ ?_
                rotate_left
                · intro w'
                  go_simp
                  with_reducible rfl
                rotate_left
                · simp only [Act.put, List.setIfInBounds_toArray, List.set_cons_zero, List.set_cons_succ, i64_w, i32_w]
                  rfl
                refine pure_ (i := 10) (N := some 62) (v := ?_) (a' := ?_) #[true, true, true, false, true, true, true, false, true, false, true, false, false] rfl rfl (by kernel_rfl) (fun _ _ _ h => h) (Or.inl ⟨by rfl, ?_⟩) ?_ ?_
                rotate_left
                · intro w'
                  go_simp
                  with_reducible rfl
                rotate_left
                · simp only [Act.put, List.setIfInBounds_toArray, List.set_cons_zero, List.set_cons_succ, i64_w, i32_w]
                  rfl
                refine take_ (i := 3) (N := some 55) (v := ?_) (a' := ?_) #[true, true, true, true, true, true, true, false, true, false, true, false, false] rfl rfl (by kernel_rfl) (fun _ _ _ h => h) (Or.inl ⟨by rfl, ?_⟩) hHeld ?_ ?_
                rotate_left
                · rintro w' ⟨s0, s1⟩
                  go_simp
                  with_reducible rfl
                rotate_left
                · simp only [Act.put, List.setIfInBounds_toArray, List.set_cons_zero, List.set_cons_succ, i64_w, i32_w]
                  rfl
                refine take_ (i := 7) (N := some 59) (v := ?_) (a' := ?_) #[true, true, true, true, true, true, true, true, true, false, true, false, false] rfl rfl (by kernel_rfl) (fun _ _ _ h => h) (Or.inl ⟨by rfl, ?_⟩) hHeld ?_ ?_
                rotate_left
                · rintro w' ⟨s0, s1⟩
                  go_simp
                  with_reducible rfl
                rotate_left
                · simp only [Act.put, List.setIfInBounds_toArray, List.set_cons_zero, List.set_cons_succ, i64_w, i32_w]
                  rfl
                refine pure_ (i := 9) (N := some 61) (v := ?_) (a' := ?_) #[true, true, true, true, true, true, true, true, true, true, true, false, false] rfl rfl (by kernel_rfl) (fun _ _ _ h => h) (Or.inl ⟨by rfl, ?_⟩) ?_ ?_
                rotate_left
                · intro w'
                  go_simp
                  with_reducible rfl
                rotate_left
                · simp only [Act.put, List.setIfInBounds_toArray, List.set_cons_zero, List.set_cons_succ, i64_w, i32_w]
                  rfl
                refine one_ (i := 11) (N := some 63) #[true, true, true, true, true, true, true, true, true, true, true, true, false] rfl rfl (by kernel_rfl) (by decide) (fun K hK => ?_)
                refine goes_ Try.func26 (by kernel_rfl) rfl #[.pointer (some ⟨d, 0, none⟩), .int .i64 ((at_ + k : Nat) : Int), .string x] (by rfl) rfl rfl (Eq.trans (b := #[.pointer (some ⟨d, 0, none⟩), .int .i64 (wrap64 ((at_ : Int) + (k : Int))), .string x]) (by simp only [List.map_toArray, List.map_cons, List.map_nil]; rfl) (by rw [HWR.out])) ?_
                with_reducible refine (hW).mono ?_
                intro e w3 hM
                obtain ⟨rfl, v3, hD3, hF3, hP3⟩ := hM
                have hJ3 := hF3.blk HI.out.2.2.2.2.2.1 HNJ.out
                have z1 : w3.cell? ⟨j, 1, none⟩ = some (.int .i64 at_) := Blk.c hJ3 1
                have z0 : w3.cell? ⟨j, 0, none⟩ = some (.pointer (some ⟨d, 0, none⟩)) := Blk.c hJ3 0
                refine ⟨_, rfl, ?_⟩
                refine hK.out _ _ ⟨z1, z0⟩ (fun hHeld => ?_)
                clear hK K
                refine norm_ (a' := ?_) ?_ ?_
                rotate_left
                · show Act.put _ (some 63) _ = _
                  simp only [Act.put, List.setIfInBounds_toArray, List.set_cons_zero, List.set_cons_succ, i64_w, i32_w]
                  rfl
                refine pure_ (i := 12) (N := some 9) (v := ?_) (a' := ?_) #[true, true, true, true, true, true, true, true, true, true, true, true, true] rfl rfl (by kernel_rfl) (fun _ _ _ h => h) (Or.inl ⟨by rfl, ?_⟩) ?_ ?_
                rotate_left
                · intro w'
                  go_simp
                  with_reducible rfl
                rotate_left
                · simp only [Act.put, List.setIfInBounds_toArray, List.set_cons_zero, List.set_cons_succ, i64_w, i32_w]
                  rfl
                refine done_ (by kernel_rfl) ?_
                have hfin : Hid (ApP base d j v1 v2 at_ cnt l.length (apF ⟨bs, ps, fuse, false⟩ at_ cnt p) w1 (.returned (.int .i64 z1_)) w3) := hidI (by
                  rw [HAP.out]
                  simp only [if_neg HRN.out]
                  unfold ApP
                  simp only [if_neg HRN.out]
                  refine ⟨trivial, v3, hD3, (HI.out.2.2.2.1.drew.trans hF3 (fun q hq h1 => by
                    rcases HI.out.2.2.2.2.1 q h1 with h2 | h2
                    · exact h2
                    · omega)).mono (fun q _ h => .inl h), fun q hq => ?_, hJ3⟩
                  rcases hP3 q hq with h1 | h1
                  · exact HI.out.2.2.2.2.1 q h1
                  · exact .inr (Nat.le_trans HI.out.2.2.2.1.size h1))
                clear hHeld hD3 hF3 hP3 hW hJ3 z1 z0 q1 q0 q
                go_wp2_with fail
                go_ret
                exact hfin.out
          · have g1 : decide ((k : Int) < (l.length : Int)) = false := decide_eq_false (by omega)
            obtain rfl : k = l.length := by omega
            have hR : Hid (Z = (0, s')) := hidI (by rw [HI.out.1, List.drop_length]; rfl)
            have hap2 : Hid (apF ⟨bs, ps, fuse, false⟩ at_ cnt p = syS s') := hidI (by rw [HAP.out, hR.out, if_pos rfl])
            have hS := sync_any base d v1 v2' s' wr HI.out.2.1 HI.out.2.2.1.fuse (by have := HI.out.2.2.1.few; omega) (by rw [HI.out.2.2.1.len]; exact HI.out.2.2.1.ins)
            obtain ⟨Y, hY⟩ : ∃ Y, Y = syS s' := ⟨_, rfl⟩
            rw [← hY] at hS
            have HY := hidI hY
            clear hY
            obtain ⟨y1, y2⟩ := Y
            simp only at hS
            go_wp2_with fail
            with_reducible refine hS.mono ?_
            rintro e w4 ⟨rfl, v3, hD4, hF4, hP4⟩
            have hJ4 := hF4.blk HI.out.2.2.2.2.2.1 HI.out.2.2.2.2.2.2.2.2
            have p1 : w4.cell? ⟨j, 1, none⟩ = some (.int .i64 at_) := Blk.c hJ4 1
            have p2 : w4.cell? ⟨j, 2, none⟩ = some (.int .i64 cnt) := Blk.c hJ4 2
            have pl := Blk.lt hJ4
            have pf := Blk.f hJ4
            have hF5 : Fr (DS d v1 v2) w1 w4 := HI.out.2.2.2.1.trans hF4 (fun q hq h1 => by
              rcases HI.out.2.2.2.2.1 q h1 with h2 | h2
              · exact h2
              · omega)
            have hP5 : ∀ q, DS d v1 v3 q → DS d v1 v2 q ∨ w1.heap.size ≤ q := fun q hq => by
              rcases hP4 q hq with h1 | h1
              · exact HI.out.2.2.2.2.1 q h1
              · exact .inr (Nat.le_trans HI.out.2.2.2.1.size h1)
            have HD4 := hidI hD4
            have HF5 := hidI hF5
            have HP5 := hidI hP5
            have HJ4 := hidI hJ4
            clear hD4 hF5 hP5 hF4 hP4 hJ4 hS q1 q0
            simp only []
            by_cases hy : y1 = 0
            · as_aux_lemma =>
                subst hy
                have HJ6 : Hid (Blk ((w4.setCell ⟨j, 1, none⟩ (.int .i64 ((at_ + l.length : Nat) : Int))).setCell ⟨j, 2, none⟩ (.int .i64 ((cnt + 1 : Nat) : Int))) j #[.pointer (some ⟨d, 0, none⟩), .int .i64 ((at_ + l.length : Nat) : Int), .int .i64 ((cnt + 1 : Nat) : Int)] 144) := hidI (by
                  have := Blk.st (Blk.st HJ4.out 1 (.int .i64 ((at_ + l.length : Nat) : Int))) 2 (.int .i64 ((cnt + 1 : Nat) : Int))
                  exact this)
                have HNJ4 : Hid (¬ DS d v1 v3 j) := hidI (notDSj HD4.out HJ4.out)
                have hfin : Hid (ApP base d j v1 v2 at_ cnt l.length (apF ⟨bs, ps, fuse, false⟩ at_ cnt p) w1 (.returned (.int .i64 0)) ((w4.setCell ⟨j, 1, none⟩ (.int .i64 ((at_ + l.length : Nat) : Int))).setCell ⟨j, 2, none⟩ (.int .i64 ((cnt + 1 : Nat) : Int))).drew) := hidI (by
                  have hF6 : Fr (fun k => k = j) w4 ((w4.setCell ⟨j, 1, none⟩ (.int .i64 ((at_ + l.length : Nat) : Int))).setCell ⟨j, 2, none⟩ (.int .i64 ((cnt + 1 : Nat) : Int))) := ((Fr.refl (fun k => k = j) w4).setCell (p := ⟨j, 1, none⟩) (fun _ => rfl) _).setCell (p := ⟨j, 2, none⟩) (fun _ => rfl) _
                  rw [hap2.out, ← HY.out]
                  refine ⟨rfl, v3, (HD4.out.fr hF6 (fun q hq e => HNJ4.out (by rw [← e]; exact hq))).below (Below.refl _ _).drew, ?_, HP5.out, ?_⟩
                  · exact ((HF5.out.mono (fun q _ h => Or.inl h)).trans hF6 (fun q _ h => .inr h)).drew
                  · rw [if_pos rfl, if_pos rfl]; exact Blk.dr HJ6.out)
                have s1 : wrap64 ((at_ : Int) + (l.length : Int)) = ((at_ + l.length : Nat) : Int) := by unfold wrap64; omega
                have s2 : wrap64 ((cnt : Int) + 1) = ((cnt + 1 : Nat) : Int) := by unfold wrap64; omega
                have HS1 := hidI s1
                have HS2 := hidI s2
                clear s1 s2
                go_wp2_with fail
                go_region
                go_wp2_with fail
                go_ret
                first | exact hfin.out | (simpa using hfin.out)
            · as_aux_lemma =>
                have hy1 : (y1 != 0) = true := by simpa using hy
                have hfin : Hid (ApP base d j v1 v2 at_ cnt l.length (apF ⟨bs, ps, fuse, false⟩ at_ cnt p) w1 (.returned (.int .i64 y1)) w4) := hidI (by
                  rw [hap2.out, ← HY.out]
                  unfold ApP
                  simp only [if_neg hy]
                  exact ⟨trivial, v3, HD4.out, HF5.out.mono (fun q _ h => .inl h), HP5.out, HJ4.out⟩)
                clear hy
                go_wp2_with fail
                go_ret
                exact hfin.out
    · as_aux_lemma =>
        have hr1 : r = 1 := by
          have := packF_err (n := (cnt : Int)) (L := bl p) (by rw [hpk]; exact hr)
          rw [hpk] at this; exact this
        have hap : apF ⟨bs, ps, fuse, false⟩ at_ cnt p = (1, ⟨bs, ps, fuse, false⟩) := by
          unfold apF; rw [if_neg (show ¬ (false = true) by decide), hpk, if_neg hr]
        have HAP := hidI hap
        subst hr1
        clear hap hnl hplen hpk hr
        go_enter Try.func45, Try.ntmps45
        go_wp2_with fail
        with_reducible refine hdead.mono ?_
        rintro e w1 ⟨rfl, hw1⟩
        subst hw1
        simp only []
        go_wp2_with fail
        with_reducible refine hpo.mono ?_
        rintro e w2 ⟨vl, rfl, hS2, hb2⟩
        obtain ⟨Al, cl, rfl, _⟩ := hS2.slice_
        have hfin : Hid (ApP base d j v1 v2 at_ cnt l.length (apF ⟨bs, ps, fuse, false⟩ at_ cnt p) w1 (.returned (.int .i64 1)) w2) := hidI (by
          rw [HAP.out]
          exact ⟨rfl, v2, HD.out.below hb2, Fr.of_below hb2, fun q hq => .inl hq, HJ.out.be hb2⟩)
        clear hS2 hb2 q2 hdead hpo q1 q0
        simp only []
        go_wp2_with fail
        go_ret
        exact hfin.out
  · as_aux_lemma =>
      have hap : apF ⟨bs, ps, fuse, true⟩ at_ cnt p = (7, ⟨bs, ps, fuse, true⟩) := by
        unfold apF; rw [if_pos rfl]
      have hfin : Hid (ApP base d j v1 v2 at_ cnt (packF cnt (bl p)).1.length (apF ⟨bs, ps, fuse, true⟩ at_ cnt p) w (.returned (.int .i64 7)) w) := hidI (by
        rw [hap]
        exact ⟨rfl, v2, HD.out, Fr.refl _ _, fun q hq => .inl hq, HJ.out⟩)
      clear hap hnl
      go_enter Try.func45, Try.ntmps45
      go_wp2_with fail
      with_reducible refine hdead.mono ?_
      rintro e w1 ⟨rfl, hw1⟩
      subst hw1
      simp only []
      go_wp2_with fail
      go_ret
      exact hfin.out
end Go.Proofs.Ytckfkbmefdmedaa
namespace Go.Proofs.Ytckfkbmefdmedaa
open Go.RowKit Go.Proofs.Kq Go.Proofs.Ytckfkbmefdmedaa.Q
open Go.Proofs.YtckfkbmefdmedaaW.PrintWords (pw_cell_below Kd Kd.C Kd.C_below Kd.R Kd.own_of_R)
open Go.Proofs.YtckfkbmefdmedaaW.PrintLast
set_option linter.unusedVariables false
set_option linter.unusedSimpArgs false
def ArP (base g j : Nat) (ua ub vr : Value) (at_ : Nat) (R : List ByteArray) (p : ByteArray) (len : Nat) (r : Int × DkS) (w : World) (e : Ending) (w' : World) : Prop :=
  e = .returned (.int .i64 r.1) ∧ ∃ ub' vr', ET w' base g ua ub' r.2 ∧ Fr (fun q => ES g ua ub q ∨ q = j ∨ vr.ownBlock = some q) w w' ∧ (∀ q, ES g ua ub' q → ES g ua ub q ∨ w.heap.size ≤ q) ∧
    KB w' j g vr' (if r.1 = 0 then at_ + len else at_) ∧ Strs w' base vr' (if r.1 = 0 then R ++ [p] else R) ∧ (∀ q, vr'.ownBlock = some q → vr.ownBlock = some q ∨ w.heap.size ≤ q) ∧ ∀ q, vr'.ownBlock = some q → ¬ ES g ua ub' q
end Go.Proofs.Ytckfkbmefdmedaa
namespace Go.Proofs.Ytckfkbmefdmedaa.Q
open Go.RowKit Go.Proofs.YtckfkbmefdmedaaW.PrintWords Go.Proofs.YtckfkbmefdmedaaW.PrintLast Go.Proofs.YtckfkbmefdmedaaW.PrintMore
attribute [local go_sem] max2_int min2_int max_two min_two max_three min_three max_four min_four   -- for this text's walks alone
set_option linter.unusedVariables false
set_option linter.unusedSimpArgs false
def souklaw06_small.l0 : Nat → List ByteArray → Int → List ByteArray → Int → Int → Option (Bool)
 | 0, _, _, _, _, _ => none
 | k + 1, x0, x3, x6, x7, x8 => if x8 < x7 then (if 0 ≤ x8 then (if x8 < (x6.length : Int) then (souklaw06_small.l0 k x0 (wrap64 (x3 + (wrap64 (1 + ((rdOf ByteArray.empty x6 x8).size : Int))))) x6 x7 (wrap64 (x8 + 1))) else (none)) else (none)) else (if x3 ≤ 4000 then (some (decide ((x0.length : Int) ≤ 30))) else (some false))
def souklaw06_small.f (k : Nat) (l0 : List ByteArray) : Option (Bool) := souklaw06_small.l0 k l0 0 l0 (l0.length : Int) 0
set_option maxHeartbeats 8000000 in
set_option maxRecDepth 100000 in
theorem souklaw06_small.calls (k : Nat) (A0 : Option Addr) (c0 : Nat) (l0 : List ByteArray) (r : Bool) (w : World) (hr0 : Kd.C Kd.string w A0 l0.length l0) (hc0 : l0.length ≤ c0) (h : souklaw06_small.f k l0 = some r) :
  Calls Try.prog 42 #[.slice A0 l0.length c0] w fun e w' => e = .returned (.bool r) ∧ Drawn0 w w' := by
 have HR0 := Aside0.mk hr0
 have HC0 := Aside0.mk hc0
 clear hr0 hc0
 have H : (souklaw06_small.l0 k l0 0 l0 (l0.length : Int) 0) = some r := h
 clear h
 have H' := Aside0.mk H
 clear H
 go_enter Try.func42, Try.ntmps42
 go_wp2
 go_loopg [3, 8] k (fun kq v3 v8 w' => ∃ (x3_1 : Int) (x8_1 : Int), v3 = .int .i64 x3_1 ∧ v8 = .int .i64 x8_1 ∧ Aside0 (souklaw06_small.l0 kq l0 x3_1 l0 (l0.length : Int) x8_1 = some r) ∧ Aside0 (kq ≤ k) ∧ Drawn0 w w')
 case atStart => exact ⟨(0), (0), (by first | rfl | (simp; done) | (simp [*]; done)), (by first | rfl | (simp; done) | (simp [*]; done)), H', ⟨Nat.le_refl _⟩, by repeat (first | exact Drawn0.refl _ | apply Drawn0.step)⟩
 case round =>
  clear H'
  obtain ⟨x3_1, x8_1, rfl, rfl, HA, HK1, ⟨m1, rfl⟩⟩ := hrel
  cases gk with
  | zero => exact absurd HA.out (by simp [souklaw06_small.l0])
  | succ k1 =>
   have H := HA.out
   clear HA
   simp only [souklaw06_small.l0] at H
   by_cases c2 : x8_1 < (l0.length : Int)
   ·rw [if_pos c2] at H
    have c2b0 : decide (x8_1 < (l0.length : Int)) = true := decide_eq_true c2
    clear c2
    by_cases c3 : 0 ≤ x8_1
    ·rw [if_pos c3] at H
     have c3b0 : decide (0 ≤ x8_1) = true := decide_eq_true c3
     clear c3
     by_cases c4 : x8_1 < (l0.length : Int)
     ·rw [if_pos c4] at H
      have c4b0 : decide (x8_1 < (l0.length : Int)) = true := decide_eq_true c4
      clear c4
      have H' := Aside0.mk H
      clear H
      have p213 : 0 ≤ (x8_1 : Int) := of_decide_eq_true (by first | (with_reducible assumption) | assumption)
      have q213 : x8_1 < (l0.length : Int) := of_decide_eq_true (by first | (with_reducible assumption) | assumption)
      obtain ⟨ad213, e213, hx213_0⟩ := Kd.at_string HR0.out x8_1 p213 q213
      cases e213
      replace p213 := eq_true p213
      replace q213 := eq_true q213
      go_wp2
      go_roundg k1
      case measure => have := HK1.out; omega
      case rel => exact ⟨(wrap64 (x3_1 + (wrap64 (1 + ((rdOf ByteArray.empty l0 x8_1).size : Int))))), (wrap64 (x8_1 + 1)), (by first | rfl | (simp; done) | (simp [*]; done)), (by first | rfl | (simp; done) | (simp [*]; done)), H', ⟨by have := HK1.out; omega⟩, by repeat (first | exact Drawn0.refl _ | apply Drawn0.step)⟩
     ·rw [if_neg c4] at H
      exact absurd H (by simp)
    ·rw [if_neg c3] at H
     exact absurd H (by simp)
   ·rw [if_neg c2] at H
    have c2b0 : decide (x8_1 < (l0.length : Int)) = false := decide_eq_false c2
    clear c2
    by_cases c5 : x3_1 ≤ 4000
    ·rw [if_pos c5] at H
     have c5b0 : decide (x3_1 ≤ 4000) = true := decide_eq_true c5
     clear c5
     obtain rfl := Option.some.inj H
     go_wp2
     go_ret
     exact ⟨by first | rfl | (simp; done) | (simp [*]; done), by repeat (first | exact Drawn0.refl _ | apply Drawn0.step)⟩
    ·rw [if_neg c5] at H
     have c5b0 : decide (x3_1 ≤ 4000) = false := decide_eq_false c5
     clear c5
     obtain rfl := Option.some.inj H
     go_wp2
     go_ret
     exact ⟨by first | rfl | (simp; done) | (simp [*]; done), by repeat (first | exact Drawn0.refl _ | apply Drawn0.step)⟩
end Go.Proofs.Ytckfkbmefdmedaa.Q
set_option linter.unusedVariables false
set_option linter.unusedSimpArgs false
namespace Go.Proofs.YtckfkbmefdmedaaW.PrintLast
variable {P : Program} {ops : Array Oper} {Q : Exit → Act → World → Prop} {md : Region.Mode} {S' : World → Prop} {ds' : List Nat}
end Go.Proofs.YtckfkbmefdmedaaW.PrintLast
namespace Go.Proofs.Ytckfkbmefdmedaa
open Go.RowKit Go.Proofs.Kq Go.Proofs.Ytckfkbmefdmedaa.Q
open Go.Proofs.YtckfkbmefdmedaaW.PrintWords (pw_cell_below Kd Kd.C Kd.C_below Kd.R Kd.own_of_R)
set_option linter.unusedVariables false
set_option linter.unusedSimpArgs false
structure BJ (w wr : World) (d j : Nat) (v1 v2 : Value) (s : DkS) (at_ cnt : Nat) : Prop where
  D : DT wr w.heap.size d v1 v2 s
  J : JB wr j d at_ cnt
  bel : Below w.heap.size w wr
  hd : w.heap.size ≤ d
  hj : w.heap.size ≤ j
def PS (d j : Nat) (v1 v2 : Value) : Nat → Prop := fun q => DS d v1 v2 q ∨ q = j
section
variable {w wr w' : World} {d j : Nat} {v1 v2 : Value} {s : DkS} {at_ cnt : Nat}
theorem BJ.below (h : BJ w wr d j v1 v2 s at_ cnt) (hb : Below wr.heap.size wr w') : BJ w w' d j v1 v2 s at_ cnt :=
  ⟨h.D.below hb, Blk.be h.J hb, below_step h.bel hb, h.hd, h.hj⟩
theorem BJ.fr {S : Nat → Prop} (h : BJ w wr d j v1 v2 s at_ cnt) (hf : Fr S wr w') (hS : ∀ q, PS d j v1 v2 q → ¬ S q) (hg : ∀ q, S q → w.heap.size ≤ q) : BJ w w' d j v1 v2 s at_ cnt :=
  ⟨h.D.fr hf (fun q hq => hS q (.inl hq)), hf.blk h.J (hS j (.inr rfl)), h.bel.trans (Fr.toB hf hg h.bel.size), h.hd, h.hj⟩
theorem BJ.lt (h : BJ w wr d j v1 v2 s at_ cnt) {q : Nat} (hq : PS d j v1 v2 q) : q < wr.heap.size := by
  rcases hq with hq | rfl
  · exact DS_lt h.D hq
  · exact Blk.lt h.J
theorem BJ.ge (h : BJ w wr d j v1 v2 s at_ cnt) {q : Nat} (hq : PS d j v1 v2 q) : w.heap.size ≤ q := by
  rcases hq with hq | rfl
  · exact DS_ge h.D h.hd hq
  · exact h.hj
def apAt (r : Int × DkS) (at_ len : Nat) : Nat := if r.1 = 0 then at_ + len else at_
def apCnt (r : Int × DkS) (cnt : Nat) : Nat := if r.1 = 0 then cnt + 1 else cnt
theorem BJ.ap {len : Nat} {r : Int × DkS} {e : Ending} (h : BJ w wr d j v1 v2 s at_ cnt) (hA : ApP w.heap.size d j v1 v2 at_ cnt len r wr e w') :
    e = .returned (.int .i64 r.1) ∧ ∃ v2', BJ w w' d j v1 v2' r.2 (apAt r at_ len) (apCnt r cnt) ∧ Fr (PS d j v1 v2) wr w' ∧ ∀ q, PS d j v1 v2' q → PS d j v1 v2 q ∨ wr.heap.size ≤ q := by
  obtain ⟨rfl, v2', hD, hF, hP, hJ⟩ := hA
  refine ⟨rfl, v2', ⟨hD, hJ, h.bel.trans (Fr.toB hF (fun q hq => h.ge hq) h.bel.size), h.hd, h.hj⟩, hF, fun q hq => ?_⟩
  rcases hq with hq | hq
  · rcases hP q hq with h1 | h1
    · exact .inl (.inl h1)
    · exact .inr h1
  · exact .inl (.inr hq)
end
structure BR (w wr : World) (g k : Nat) (ua ub vr : Value) (t : DkS) (atr : Nat) (R : List ByteArray) : Prop where
  E : ET wr w.heap.size g ua ub t
  K : KB wr k g vr atr
  S : Strs wr w.heap.size vr R
  rn : ∀ q, vr.ownBlock = some q → ¬ ES g ua ub q
  bel : Below w.heap.size w wr
  hg : w.heap.size ≤ g
  hk : w.heap.size ≤ k
def QS (g k : Nat) (ua ub vr : Value) : Nat → Prop := fun q => ES g ua ub q ∨ q = k ∨ vr.ownBlock = some q
section
variable {w wr w' : World} {g k : Nat} {ua ub vr : Value} {t : DkS} {atr : Nat} {R : List ByteArray}
theorem BR.below (h : BR w wr g k ua ub vr t atr R) (hb : Below wr.heap.size wr w') : BR w w' g k ua ub vr t atr R :=
  ⟨h.E.below hb, Blk.be h.K hb, h.S.below hb, h.rn, below_step h.bel hb, h.hg, h.hk⟩
theorem BR.fr {S : Nat → Prop} (h : BR w wr g k ua ub vr t atr R) (hf : Fr S wr w') (hS : ∀ q, QS g k ua ub vr q → ¬ S q) (hg : ∀ q, S q → w.heap.size ≤ q) : BR w w' g k ua ub vr t atr R :=
  ⟨h.E.fr hf (fun q hq => hS q (.inl hq)), hf.blk h.K (hS k (.inr (.inl rfl))), h.S.fr hf (fun q hq => hS q (.inr (.inr hq))), h.rn, h.bel.trans (Fr.toB hf hg h.bel.size), h.hg, h.hk⟩
theorem BR.lt (h : BR w wr g k ua ub vr t atr R) {q : Nat} (hq : QS g k ua ub vr q) : q < wr.heap.size := by
  rcases hq with hq | rfl | hq
  · exact ES_lt h.E hq
  · exact Blk.lt h.K
  · exact h.S.lt hq
theorem BR.ge (h : BR w wr g k ua ub vr t atr R) {q : Nat} (hq : QS g k ua ub vr q) : w.heap.size ≤ q := by
  rcases hq with hq | rfl | hq
  · exact ES_ge h.E h.hg hq
  · exact h.hk
  · exact h.S.ge hq
def apR (r : Int × DkS) (R : List ByteArray) (p : ByteArray) : List ByteArray := if r.1 = 0 then R ++ [p] else R
theorem BR.ap {p : ByteArray} {len : Nat} {r : Int × DkS} {e : Ending} (h : BR w wr g k ua ub vr t atr R) (hA : ArP w.heap.size g k ua ub vr atr R p len r wr e w') :
    e = .returned (.int .i64 r.1) ∧ ∃ ub' vr', BR w w' g k ua ub' vr' r.2 (apAt r atr len) (apR r R p) ∧ Fr (QS g k ua ub vr) wr w' ∧ ∀ q, QS g k ua ub' vr' q → QS g k ua ub vr q ∨ wr.heap.size ≤ q := by
  obtain ⟨rfl, ub', vr', hE, hF, hP, hK, hS, hN, hM⟩ := hA
  refine ⟨rfl, ub', vr', ⟨hE, hK, hS, hM, h.bel.trans (Fr.toB hF (fun q hq => h.ge hq) h.bel.size), h.hg, h.hk⟩, hF, fun q hq => ?_⟩
  rcases hq with hq | hq | hq
  · rcases hP q hq with h1 | h1
    · exact .inl (.inl h1)
    · exact .inr h1
  · exact .inl (.inr (.inl hq))
  · rcases hN q hq with h1 | h1
    · exact .inl (.inr (.inr h1))
    · exact .inr h1
end
theorem ap_step {bs R : List ByteArray} {at_ : Nat} (h : Jn bs R at_) (p : ByteArray) : ∃ bs', (apF ⟨bs, [], -1, false⟩ at_ R.length p).2 = ⟨bs', [], -1, false⟩ ∧ bs'.length = bs.length ∧
    Jn bs' (apR (apF ⟨bs, [], -1, false⟩ at_ R.length p) R p) (apAt (apF ⟨bs, [], -1, false⟩ at_ R.length p) at_ (packF (R.length : Int) (bl p)).1.length) ∧ apCnt (apF ⟨bs, [], -1, false⟩ at_ R.length p) R.length = (apR (apF ⟨bs, [], -1, false⟩ at_ R.length p) R p).length ∧ (apR (apF ⟨bs, [], -1, false⟩ at_ R.length p) R p).length ≤ R.length + 1 := by
  rw [apF_ok h (-1) (by omega) p]
  unfold apR apAt apCnt
  by_cases h1 : (packF (R.length : Int) (bl p)).2 = 0
  · rw [if_pos h1]
    by_cases h2 : bs.length < at_ + (packF (R.length : Int) (bl p)).1.length
    · rw [if_pos h2]
      exact ⟨bs, rfl, rfl, h, rfl, by simp⟩
    · rw [if_neg h2]
      have hle := h.le
      refine ⟨_, rfl, ?_, ?_, ?_, ?_⟩
      · simp only [List.length_append, List.length_take, List.length_drop]; omega
      · exact h.more p _ (Prod.ext rfl h1) (by omega)
      · simp
      · simp
  · rw [if_neg h1]
    exact ⟨bs, rfl, rfl, h, rfl, by simp⟩
theorem jn_good {bs : List ByteArray} (h : All64 bs) : Good bs.length 0 ⟨bs, [], -1, false⟩ :=
  ⟨rfl, h, fun p hp => by simp at hp, fun p hp => by simp at hp, Nat.le_refl _, by show (-9223372036854775808 : Int) ≤ -1 ∧ (-1 : Int) ≤ 9223372036854775807; decide⟩
theorem opn_new (n : Nat) (f : Int) : erL ⟨List.replicate n e64, [], f, false⟩ 0 false ((List.replicate n e64).drop 0) = (0, ⟨List.replicate n e64, [], f, false⟩) :=
  erL_same _ _ _ (fun x hx => List.eq_of_mem_replicate (List.mem_of_mem_drop hx))
theorem all64_new (n : Nat) : All64 (List.replicate n e64) := fun b hb => by rw [List.eq_of_mem_replicate hb]; exact e64_size
theorem BJ.open_ {w w1 w2 : World} {d : Nat} {v1 v2 : Value} {bs R : List ByteArray} {a : Nat} {e : Ending} {s : DkS} (hb : Below w.heap.size w w1) (hd : w.heap.size ≤ d) (hD : DT w1 w.heap.size d v1 v2 ⟨bs, [], -1, false⟩) (hO : OpP w.heap.size d v1 v2 R a (0, s) w1 e w2) :
    ∃ v2' j vr, e = .returned (.tuple #[.pointer (some ⟨j, 0, none⟩), vr, .int .i64 0]) ∧ BJ w w2 d j v1 v2' s a R.length ∧ Strs w2 w1.heap.size vr R ∧ (∀ q, vr.ownBlock = some q → ¬ PS d j v1 v2' q) ∧ Fr (DS d v1 v2) w1 w2 ∧ ∀ q, PS d j v1 v2' q → DS d v1 v2 q ∨ w1.heap.size ≤ q := by
  obtain ⟨v2', pj, vr, rfl, hD2, hF, hP, hj⟩ := hO
  obtain ⟨j, rfl, hj1, hj2, hj3, hj4⟩ := hj rfl
  refine ⟨v2', j, vr, rfl, ⟨hD2, hj2, hb.trans (Fr.toB hF (fun q hq => DS_ge hD hd hq) hb.size), hd, Nat.le_trans hb.size hj1⟩, hj3, fun q hq hn => ?_, hF, fun q hq => ?_⟩
  · rcases hn with hn | rfl
    · exact hj4 q hq hn
    · exact hj3.ne hj2 (by decide) hq
  · rcases hq with hq | rfl
    · exact hP q hq
    · exact .inr hj1
theorem BR.open_ {w w1 w2 : World} {g : Nat} {ua ub : Value} {bs R : List ByteArray} {a : Nat} {e : Ending} {s : DkS} (hb : Below w.heap.size w w1) (hd : w.heap.size ≤ g) (hD : ET w1 w.heap.size g ua ub ⟨bs, [], -1, false⟩) (hO : RoP w.heap.size g ua ub R a (0, s) w1 e w2) :
    ∃ ub' k vr, e = .returned (.tuple #[.pointer (some ⟨k, 0, none⟩), .int .i64 0]) ∧ BR w w2 g k ua ub' vr s a R ∧ Fr (ES g ua ub) w1 w2 ∧ ∀ q, QS g k ua ub' vr q → ES g ua ub q ∨ w1.heap.size ≤ q := by
  obtain ⟨ub', pj, rfl, hD2, hF, hP, hj⟩ := hO
  obtain ⟨k, vr, rfl, hj1, hj2, hj3, hj4⟩ := hj rfl
  refine ⟨ub', k, vr, rfl, ⟨hD2, hj2, hj3.lower hb.size, hj4, hb.trans (Fr.toB hF (fun q hq => ES_ge hD hd hq) hb.size), hd, Nat.le_trans hb.size hj1⟩, hF, fun q hq => ?_⟩
  rcases hq with hq | rfl | hq
  · exact hP q hq
  · exact .inr hj1
  · exact .inr (hj3.ge hq)
end Go.Proofs.Ytckfkbmefdmedaa
namespace Go.Proofs.Ytckfkbmefdmedaa
open Go.RowKit Go.Proofs.Kq Go.Proofs.Ytckfkbmefdmedaa.Q
open Go.Proofs.YtckfkbmefdmedaaW.PrintWords (pw_cell_below Kd Kd.C Kd.C_below Kd.R Kd.own_of_R)
set_option linter.unusedVariables false
set_option linter.unusedSimpArgs false
theorem ap_good {bs R : List ByteArray} {at_ : Nat} (h : Jn bs R at_) (h64 : All64 bs) (p : ByteArray) (c : Nat) (hc : cntL (bl p).length = c) (h1 : 0 < c) (h2 : c ≤ 255) (hR : R.length < 1000000) (hfit : at_ + c ≤ bs.length) :
    ∃ bs', apF ⟨bs, [], -1, false⟩ at_ R.length p = (0, ⟨bs', [], -1, false⟩) ∧ bs'.length = bs.length ∧ Jn bs' (R ++ [p]) (at_ + c) ∧ (packF (R.length : Int) (bl p)).1.length = c ∧ All64 bs' := by
  have hp : packF (R.length : Int) (bl p) = (blkR (R.length : Int) (bl p) c 0 c, 0) := by
    unfold packF; rw [hc, if_neg (by omega)]
  have hl : (packF (R.length : Int) (bl p)).1.length = c := by rw [hp]; exact blkR_len _ _ _ _ _
  have hg := (apF_good (jn_good h64) at_ R.length p).b64
  have e := apF_ok h (-1) (by omega) p
  rw [hp, if_pos rfl, if_neg (by rw [blkR_len]; omega)] at e
  rw [e] at hg
  have hm := h.more p _ hp (by rw [blkR_len]; omega)
  rw [blkR_len] at hm
  refine ⟨_, e, ?_, by rw [blkR_len]; exact hm, hl, hg⟩
  simp only [List.length_append, List.length_take, List.length_drop, blkR_len]; omega
def pA : ByteArray := ⟨(Lib.repeatL [97] 10).toArray⟩
def pB : ByteArray := ⟨(Lib.repeatL [98] 60).toArray⟩
theorem pA_len : (bl pA).length = 10 := by unfold pA bl; simp [Lib.repeatL_length]
theorem pB_len : (bl pB).length = 60 := by unfold pB bl; simp [Lib.repeatL_length]
theorem rep_pA : strings_Repeat.f ⟨#[97]⟩ 10 = some pA := by
  unfold strings_Repeat.f
  rw [if_pos ⟨by omega, by omega, by show 1 * _ ≤ _; omega⟩]
  have e1 : (10 : Int).toNat = 10 := rfl
  have e2 : (⟨#[97]⟩ : ByteArray).data.toList = [97] := rfl
  rw [e1, e2]; unfold pA; rfl
theorem rep_pB : strings_Repeat.f ⟨#[98]⟩ 60 = some pB := by
  unfold strings_Repeat.f
  rw [if_pos ⟨by omega, by omega, by show 1 * _ ≤ _; omega⟩]
  have e1 : (60 : Int).toNat = 60 := rfl
  have e2 : (⟨#[98]⟩ : ByteArray).data.toList = [98] := rfl
  rw [e1, e2]; unfold pB; rfl
set_option maxHeartbeats 4000000 in
set_option maxRecDepth 100000 in
theorem lives06_any (w : World) : Calls Try.prog 41 #[] w fun e w' => e = .returned (.bool true) ∧ Below w.heap.size w w' := by
  have hN : Calls Try.prog 23 #[.int .i64 9] w (NwP 9 w) := new_any 9 w (by omega)
  go_enter Try.func41, Try.ntmps41
  go_wp2_with fail
  with_reducible refine hN.mono ?_
  rintro e w1 ⟨d, v1, rfl, hD1, hd, hb1⟩
  have HD1 := hidI hD1
  have HB1 := hidI hb1
  obtain ⟨b0, hb0⟩ : ∃ b0, b0 = List.replicate 9 e64 := ⟨_, rfl⟩
  have HJ0 : Hid (Jn b0 [] 0) := hidI (by rw [hb0]; exact jn_new 9)
  have HA0 : Hid (All64 b0) := hidI (by rw [hb0]; exact all64_new 9)
  have hl0 : b0.length = 9 := by rw [hb0]; simp
  have HL0 := hidI hl0
  have HO : Hid (Calls Try.prog 43 #[.pointer (some ⟨d, 0, none⟩)] w1 (OpP w.heap.size d v1 (.slice none 0 0) [] 0 (0, ⟨b0, [], -1, false⟩) w1)) := hidI (by
    have := open_any w.heap.size d v1 (.slice none 0 0) b0 [] (-1) 0 0 w1 (by rw [hb0]; exact HD1.out) (jn_good HA0.out) hb1.size (by omega) (by omega) (HJ0.out.end_ (by omega))
    have e : erL ⟨b0, [], -1, false⟩ 0 false (b0.drop 0) = (0, ⟨b0, [], -1, false⟩) := by rw [hb0]; exact opn_new 9 (-1)
    rw [e] at this
    exact this)
  have HDb : Hid (DT w1 w.heap.size d v1 (.slice none 0 0) ⟨b0, [], -1, false⟩) := hidI (by rw [hb0]; exact HD1.out)
  clear hN hD1 hb1 hb0 hl0 HD1
  simp only []
  go_wp2_with fail
  with_reducible refine HO.out.mono ?_
  intro e w2 hO2
  obtain ⟨v2, j, vr0, rfl, hB2, hS2, _, hF2, _⟩ := BJ.open_ HB1.out hd HDb.out hO2
  have HB2 := hidI hB2
  obtain ⟨A0, c0, rfl, _⟩ := hS2.slice_
  clear hO2 hB2 hS2 hF2 HO HDb HB1
  simp only []
  go_wp2_with fail
  with_reducible refine (strings_Repeat.calls ⟨#[97]⟩ 10 pA w2 rep_pA).mono ?_
  rintro e w3 ⟨rfl, hb3⟩
  have HB3 : Hid (BJ w w3 d j v1 v2 ⟨b0, [], -1, false⟩ 0 0) := hidI (HB2.out.below hb3)
  obtain ⟨b1, he1, hl1, hj1, hp1, h641⟩ := ap_good HJ0.out HA0.out pA 1 (by rw [pA_len]; rfl) (by omega) (by omega) (by simp) (by rw [HL0.out]; omega)
  rw [List.length_nil] at he1 hp1
  have HA : Hid (Calls Try.prog 45 #[.pointer (some ⟨j, 0, none⟩), .string pA] w3 (ApP w.heap.size d j v1 v2 0 0 1 (0, ⟨b1, [], -1, false⟩) w3)) := hidI (by
    have := jappend_any w.heap.size d j v1 v2 ⟨b0, [], -1, false⟩ 0 0 9 0 pA w3 HB3.out.D HB3.out.J (by have := jn_good HA0.out; rwa [HL0.out] at this) HB3.out.bel.size (by omega) (by omega) (by omega) (by omega) (by rw [ba_size, pA_len]; omega)
    rw [hp1, he1] at this
    exact this)
  have HJ1 := hidI hj1
  have HA1 := hidI h641
  have HL1 : Hid (b1.length = 9) := hidI (hl1.trans HL0.out)
  clear hb3 he1 hl1 hj1 hp1 h641 HB2
  simp only []
  go_wp2_with fail
  with_reducible refine HA.out.mono ?_
  intro e w4 hA4
  obtain ⟨rfl, v3, hB4, _, _⟩ := HB3.out.ap hA4
  have HB4 : Hid (BJ w w4 d j v1 v3 ⟨b1, [], -1, false⟩ 1 1) := hidI hB4
  clear hA4 hB4 HA HB3
  simp only []
  go_wp2_with fail
  with_reducible refine (strings_Repeat.calls ⟨#[98]⟩ 60 pB w4 rep_pB).mono ?_
  rintro e w5 ⟨rfl, hb5⟩
  have HB5 : Hid (BJ w w5 d j v1 v3 ⟨b1, [], -1, false⟩ 1 1) := hidI (HB4.out.below hb5)
  obtain ⟨b2, he1, hl1, hj1, hp1, h641⟩ := ap_good HJ1.out HA1.out pB 2 (by rw [pB_len]; rfl) (by omega) (by omega) (by simp) (by rw [HL1.out]; omega)
  obtain ⟨R2, hR2⟩ : ∃ R2, R2 = [] ++ [pA] ++ [pB] := ⟨_, rfl⟩
  have hR2l : R2.length = 2 := by rw [hR2]; rfl
  rw [← hR2] at hj1
  have hone : ([] ++ [pA] : List ByteArray).length = 1 := rfl
  rw [hone] at he1 hp1
  have HA : Hid (Calls Try.prog 45 #[.pointer (some ⟨j, 0, none⟩), .string pB] w5 (ApP w.heap.size d j v1 v3 1 1 2 (0, ⟨b2, [], -1, false⟩) w5)) := hidI (by
    have := jappend_any w.heap.size d j v1 v3 ⟨b1, [], -1, false⟩ 1 1 9 0 pB w5 HB5.out.D HB5.out.J (by have := jn_good HA1.out; rwa [HL1.out] at this) HB5.out.bel.size (by omega) (by omega) (by omega) (by omega) (by rw [ba_size, pB_len]; omega)
    rw [hp1, he1] at this
    exact this)
  have HJ2 := hidI hj1
  have HL2 : Hid (b2.length = 9) := hidI (hl1.trans HL1.out)
  have HR2 := hidI hR2l
  clear hb5 he1 hl1 hj1 hp1 h641 HB4 hR2 hone hR2l
  simp only []
  go_wp2_with fail
  with_reducible refine HA.out.mono ?_
  intro e w6 hA6
  obtain ⟨rfl, v4, hB6, _, _⟩ := HB5.out.ap hA6
  have HB6 : Hid (BJ w w6 d j v1 v4 ⟨b2, [], -1, false⟩ 3 2) := hidI hB6
  clear hA6 hB6 HA HB5
  simp only []
  go_wp2_with fail
  with_reducible refine (all_any w.heap.size d v1 v4 ⟨b2, [], -1, false⟩ w6 HB6.out.D (by show b2.length ≤ _; rw [HL2.out]; omega)).mono ?_
  rintro e w7 ⟨vw, rfl, hS7, hb7⟩
  have hS7 : Strs w7 w6.heap.size vw b2 := hS7
  obtain ⟨A7, c7, rfl, hc7, hC7⟩ := strs_reads hS7
  obtain ⟨K, hK⟩ := EvT.one (jrec_ok (by rw [HL2.out]; omega) (HJ2.out.end_ (by rw [HL2.out]; omega)))
  have hRec := journal_Records.calls K A7 c7 b2 R2 3 w7 hC7 hc7 hK
  have HB7 : Hid (BJ w w7 d j v1 v4 ⟨b2, [], -1, false⟩ 3 2) := hidI (HB6.out.below hb7)
  clear hS7 hb7 hK hC7 hc7 HB6
  simp only []
  go_wp2_with fail
  with_reducible refine hRec.mono ?_
  rintro e w8 ⟨vr, rfl, hS8, hb8⟩
  obtain ⟨A8, c8, hv8, _⟩ := (strs_of_R hS8).slice_
  rw [HR2.out] at hv8
  subst hv8
  have HB8 : Hid (BJ w w8 d j v1 v4 ⟨b2, [], -1, false⟩ 3 2) := hidI (HB7.out.below hb8)
  have hLen := jlen_any j d 3 2 w8 HB8.out.J (by omega)
  have hLeft : Calls Try.prog 48 #[.pointer (some ⟨j, 0, none⟩)] w8 fun e w' => e = .returned (.int .i64 6) ∧ w' = w8.drew := by
    have := jleft_any w.heap.size j d 3 2 v1 v4 ⟨b2, [], -1, false⟩ w8 HB8.out.D HB8.out.J (by show b2.length ≤ _; rw [HL2.out]; omega) (by show _ ≤ b2.length; rw [HL2.out]; omega)
    have e : ((b2.length - 3 : Nat) : Int) = 6 := by rw [HL2.out]; rfl
    have e2 : (((⟨b2, [], -1, false⟩ : DkS).bs.length - 3 : Nat) : Int) = 6 := e
    rw [e2] at this
    exact this
  clear hS8 hb8 hRec HB7
  simp only []
  go_wp2_with fail
  with_reducible refine hLen.mono ?_
  rintro e w9 ⟨rfl, hw9⟩
  subst hw9
  simp only []
  go_wp2_with fail
  with_reducible refine hLeft.mono ?_
  rintro e w10 ⟨rfl, hw10⟩
  have hfin : Hid (Below w.heap.size w w10) := hidI (by rw [hw10]; exact HB8.out.bel.drew)
  clear hw10
  simp only []
  go_wp2_with fail
  go_ret
  exact ⟨rfl, hfin.out⟩
end Go.Proofs.Ytckfkbmefdmedaa
namespace Go.Proofs.Ytckfkbmefdmedaa
open Go.RowKit Go.Proofs.Kq Go.Proofs.Ytckfkbmefdmedaa.Q
open Go.Proofs.YtckfkbmefdmedaaW.PrintWords (pw_cell_below Kd Kd.C Kd.C_below Kd.R Kd.own_of_R rdOf)
open Go.Proofs.YtckfkbmefdmedaaW.PrintLast
set_option linter.unusedVariables false
set_option linter.unusedSimpArgs false
def accW : Int → List ByteArray → Int
  | x, [] => x
  | x, s :: l => accW (wrap64 (x + wrap64 (1 + (s.size : Int)))) l
theorem accW_plain : ∀ (l : List ByteArray) (x : Int), 0 ≤ x → x + l.length * 140737488355329 ≤ 9000000000000000000 → (∀ s ∈ l, s.size ≤ 140737488351232) → ∀ z, accW x l ≤ z → x ≤ z ∧ ∀ s ∈ l, (s.size : Int) ≤ z
  | [], x, h0, hx, hs, z, hz => ⟨hz, fun s h => by simp at h⟩
  | s :: l, x, h0, hx, hs, z, hz => by
    have h1 := hs s (by simp)
    rw [List.length_cons] at hx
    have e : wrap64 (x + wrap64 (1 + (s.size : Int))) = x + (1 + (s.size : Int)) := by
      have e1 : wrap64 (1 + (s.size : Int)) = 1 + (s.size : Int) := by unfold wrap64; omega
      rw [e1]; unfold wrap64; omega
    have hz' : accW (x + (1 + (s.size : Int))) l ≤ z := by rw [← e]; exact hz
    obtain ⟨h2, h3⟩ := accW_plain l (x + (1 + (s.size : Int))) (by omega) (by omega) (fun y hy => hs y (by simp [hy])) z hz'
    refine ⟨by omega, fun y hy => ?_⟩
    rcases List.mem_cons.1 hy with rfl | hy
    · omega
    · exact h3 y hy
theorem small42_loop (l : List ByteArray) (hl : l.length ≤ 9000000000000) : ∀ (r i : Nat) (x : Int), i + r = l.length → EvT (fun k => souklaw06_small.l0 k l x l (l.length : Int) (i : Int)) (decide (accW x (l.drop i) ≤ 4000) && decide ((l.length : Int) ≤ 30))
  | 0, i, x, hi => by
    refine EvT.done (fun k => ?_)
    rw [souklaw06_small.l0, if_neg (by omega), List.drop_eq_nil_of_le (by omega)]
    show _ = some (decide (x ≤ 4000) && _)
    by_cases h : x ≤ 4000
    · rw [if_pos h, decide_eq_true h, Bool.true_and]
    · rw [if_neg h, decide_eq_false h, Bool.false_and]
  | r + 1, i, x, hi => by
    have hlt : i < l.length := by omega
    have hb := small42_loop l hl r (i + 1) (wrap64 (x + wrap64 (1 + ((rdOf ByteArray.empty l (i : Int)).size : Int)))) (by omega)
    have e : wrap64 ((i : Int) + 1) = ((i + 1 : Nat) : Int) := by unfold wrap64; omega
    have hr : rdOf ByteArray.empty l (i : Int) = l[i] := by simp [rdOf, hlt]
    have ed : accW x (l.drop i) = accW (wrap64 (x + wrap64 (1 + ((rdOf ByteArray.empty l (i : Int)).size : Int)))) (l.drop (i + 1)) := by
      rw [List.drop_eq_getElem_cons hlt, hr]; rfl
    rw [ed]
    refine EvT.step (fun k => ?_) hb
    rw [souklaw06_small.l0, if_pos (by omega), if_pos (by omega), if_pos (by omega), e]
theorem small42_ok (l : List ByteArray) (hl : l.length ≤ 9000000000000) (hs : ∀ s ∈ l, s.size ≤ 140737488351232) : ∃ b K, souklaw06_small.f K l = some b ∧ (b = true → l.length ≤ 30 ∧ ∀ s ∈ l, s.size ≤ 4000) := by
  obtain ⟨K, hK⟩ := EvT.one (small42_loop l hl l.length 0 0 (by omega))
  refine ⟨_, K, hK, fun hb => ?_⟩
  simp only [Bool.and_eq_true, decide_eq_true_eq, List.drop_zero] at hb
  have h30 : l.length ≤ 30 := by omega
  obtain ⟨_, h2⟩ := accW_plain l 0 (by omega) (by omega) hs 4000 hb.1
  exact ⟨h30, fun s h => by have := h2 s h; omega⟩
def Tru8 (w : World) (e : Ending) (w' : World) : Prop := e = .returned (.bool true) ∧ Below w.heap.size w w'
theorem C_strs8 {w : World} {A : Option Addr} {xs : List ByteArray} (h : Kd.C Kd.string w A xs.length xs) (hn : 0 < xs.length) :
    ∃ b off, A = some ⟨b, off, none⟩ ∧ ∀ (i : Nat) (hi : i < xs.length), w.cell? ⟨b, off + i, none⟩ = some (.string xs[i]) := by
  obtain ⟨ad, rfl, hc⟩ := (Go.Proofs.YtckfkbmefdmedaaW.PrintWords.Kd.reads_of_C (d := ByteArray.empty) h).2.2 hn
  have hsp : ad.spot = none := by
    have h1 := Rk.spot_none (hc 0 hn)
    simpa [Addr.add] using h1
  refine ⟨ad.block, ad.off, by rw [← Kp.addr_eta hsp], fun i hi => ?_⟩
  have := hc i hi
  rw [Kp.addr_eta hsp, Kp.add_plain', List.getD_eq_getElem?_getD, List.getElem?_eq_getElem hi] at this
  simpa using this
structure B2 (w wr : World) (d j : Nat) (v1 v2 : Value) (g k : Nat) (ua ub vr : Value) (s : DkS) (a : Nat) (R : List ByteArray) : Prop where
  P : BJ w wr d j v1 v2 s a R.length
  Q : BR w wr g k ua ub vr s a R
  apart : ∀ q, PS d j v1 v2 q → ¬ QS g k ua ub vr q
section
variable {w wr w' : World} {d j : Nat} {v1 v2 : Value} {g k : Nat} {ua ub vr : Value} {s s3 : DkS} {a a3 : Nat} {R R3 : List ByteArray}
theorem BJ.drew {at_ cnt : Nat} (h : BJ w wr d j v1 v2 s at_ cnt) : BJ w wr.drew d j v1 v2 s at_ cnt := h.below (Below.refl _ _).drew
theorem B2.below (h : B2 w wr d j v1 v2 g k ua ub vr s a R) (hb : Below wr.heap.size wr w') : B2 w w' d j v1 v2 g k ua ub vr s a R := ⟨h.P.below hb, h.Q.below hb, h.apart⟩
theorem B2.drew (h : B2 w wr d j v1 v2 g k ua ub vr s a R) : B2 w wr.drew d j v1 v2 g k ua ub vr s a R := h.below (Below.refl _ _).drew
end
end Go.Proofs.Ytckfkbmefdmedaa
namespace Go.Proofs.Ytckfkbmefdmedaa
open Go.RowKit Go.Proofs.Kq Go.Proofs.Ytckfkbmefdmedaa.Q
open Go.Proofs.YtckfkbmefdmedaaW.PrintWords (pw_cell_below Kd Kd.C Kd.C_below Kd.R Kd.own_of_R rdOf)
open Go.Proofs.YtckfkbmefdmedaaW.PrintLast
set_option linter.unusedVariables false
set_option linter.unusedSimpArgs false
theorem BJ.openF {w w1 w2 : World} {d : Nat} {v1 v2 : Value} {s0 : DkS} {R : List ByteArray} {a : Nat} {e : Ending} {s : DkS} (hb : Below w.heap.size w w1) (hd : w.heap.size ≤ d) (hD : DT w1 w.heap.size d v1 v2 s0) (hO : OpP w.heap.size d v1 v2 R a (0, s) w1 e w2) :
    ∃ v2' j vr, e = .returned (.tuple #[.pointer (some ⟨j, 0, none⟩), vr, .int .i64 0]) ∧ BJ w w2 d j v1 v2' s a R.length ∧ Strs w2 w1.heap.size vr R ∧ (∀ q, vr.ownBlock = some q → ¬ PS d j v1 v2' q) ∧ Fr (DS d v1 v2) w1 w2 ∧ ∀ q, PS d j v1 v2' q → DS d v1 v2 q ∨ w1.heap.size ≤ q := by
  obtain ⟨v2', pj, vr, rfl, hD2, hF, hP, hj⟩ := hO
  obtain ⟨j, rfl, hj1, hj2, hj3, hj4⟩ := hj rfl
  refine ⟨v2', j, vr, rfl, ⟨hD2, hj2, hb.trans (Fr.toB hF (fun q hq => DS_ge hD hd hq) hb.size), hd, Nat.le_trans hb.size hj1⟩, hj3, fun q hq hn => ?_, hF, fun q hq => ?_⟩
  · rcases hn with hn | rfl
    · exact hj4 q hq hn
    · exact hj3.ne hj2 (by decide) hq
  · rcases hq with hq | rfl
    · exact hP q hq
    · exact .inr hj1
theorem jn_goodF {bs : List ByteArray} (h : All64 bs) (f : Int) (hf : -9223372036854775808 ≤ f ∧ f ≤ 9223372036854775807) : Good bs.length 0 ⟨bs, [], f, false⟩ :=
  ⟨rfl, h, fun p hp => by simp at hp, fun p hp => by simp at hp, Nat.le_refl _, hf⟩
end Go.Proofs.Ytckfkbmefdmedaa
