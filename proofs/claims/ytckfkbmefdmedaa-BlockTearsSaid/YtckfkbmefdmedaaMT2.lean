/- What the statement leans on, part 2: functions of the program and of the reference as Lean functions, their contracts, and plain laws. -/
import Derived.Laws.StructEq
import Derived.Shelf.SlGeneric
import Derived.Shelf.Spec.SlicesGrow
import Derived.Ground.Names8Prog
import Derived.Test.YtckfkbmefdmedaaMT1
namespace Go.Proofs.Ytckfkbmefdmedaa
open Go.RowKit Go.Proofs.Kq Go.Proofs.Ytckfkbmefdmedaa.Q Go.Proofs.YtckfkbmefdmedaaW.PrintWords Go
set_option linter.unusedVariables false
set_option linter.unusedSimpArgs false
def Far (number : Int) (u : ByteArray) : Prop := u.size = 64 ∧ (bl u).drop 60 ≠ tagL ((number + 1) % 4294967296)
def tearZ (x u : ByteArray) (cut : Nat) : ByteArray := x.extract 0 cut ++ u.extract cut u.size
theorem tear_bl (x u : ByteArray) (cut : Nat) (hx : x.size = 64) (hu : u.size = 64) (hc : cut ≤ 64) : bl (tearZ x u cut) = (bl x).take cut ++ (bl u).drop cut := by
  unfold tearZ
  rw [bl_append, bl_extract, bl_extract, List.drop_zero, Nat.sub_zero, List.take_of_length_le (l := (bl u).drop cut) (by rw [List.length_drop, ← ba_size]; omega)]
theorem tear_none (number : Int) (p : ByteArray) (n k cut : Nat) (hc : cntL (bl p).length = n) (h2 : n ≤ 255) (hk : k < n) (hcut : cut ≤ 64) (u : ByteArray) (hu : Far number u)
    (hne : tearZ (oneF number k n (chunk (bl p) k)) u cut ≠ oneF number k n (chunk (bl p) k)) : ∀ q m, ¬ Rec number ((blkR number (bl p) n 0 n).set k (tearZ (oneF number k n (chunk (bl p) k)) u cut)) q m := by
  intro q m h
  have hcl := chunk_le (bl p) k
  have hxs := one_size number k n _ hcl
  have hxt := one_tail number k n _ hcl
  have hlen : ((blkR number (bl p) n 0 n).set k (tearZ (oneF number k n (chunk (bl p) k)) u cut)).length = n := by rw [List.length_set, blkR_len]
  have hm : k < m := by
    by_cases k0 : k = 0
    · have := h.1; omega
    · have e1 := (rec_ok h 0 h.1 (by omega)).2.1
      rw [List.getElem_set_ne (by omega), blkR_get number (bl p) n n 0 0 (by omega), one_cnt _ _ _ _ (by omega)] at e1
      omega
  have e := h.at_ k hm (by omega)
  rw [List.getElem_set_self] at e
  have hzt : (bl (tearZ (oneF number k n (chunk (bl p) k)) u cut)).drop 60 = tagL ((number + 1) % 4294967296) := by
    rw [e]; exact one_tail number k m _ (chunk_le _ _)
  generalize oneF number k n (chunk (bl p) k) = x at *
  have hbz := tear_bl x u cut hxs hu.1 hcut
  have hxl : (bl x).length = 64 := by rw [← ba_size]; exact hxs
  by_cases h60 : cut ≤ 60
  · refine hu.2 ?_
    have hd : ((bl x).take cut ++ (bl u).drop cut).drop 60 = (bl u).drop 60 := by
      have h1 : ((bl x).take cut).drop 60 = [] := List.drop_eq_nil_of_le (by rw [List.length_take]; omega)
      rw [List.drop_append, h1, List.nil_append, List.drop_drop, List.length_take, hxl, show cut + (60 - min cut 64) = 60 by omega]
    rw [hbz, hd] at hzt
    exact hzt
  · refine hne (ba_ext ?_)
    rw [← List.take_append_drop 60 (bl (tearZ x u cut)), ← List.take_append_drop 60 (bl x), hzt, hxt]
    congr 1
    rw [hbz, List.take_append_of_le_length (by rw [List.length_take]; omega), List.take_take, Nat.min_eq_left (by omega)]
theorem far_other (number other : Int) (ha : 0 ≤ number) (ha2 : number < 4294967295) (hb : 0 ≤ other) (hb2 : other < 4294967295) (hne : number ≠ other) (i c : Int) (d : ByteArray) (hd : d.size ≤ 49) : Far number (oneF other i c d) :=
  ⟨one_size _ _ _ _ hd, by rw [one_tail _ _ _ _ hd]; exact fun h => hne (tag_ne _ _ hb hb2 ha ha2 h).symm⟩
def z64 : ByteArray := ⟨(Lib.repeatL [0] 64).toArray⟩
theorem far_zero (number : Int) (ha : 0 ≤ number) (ha2 : number < 4294967295) : Far number z64 := by
  have hb : bl z64 = List.replicate 64 0 := by
    unfold z64 bl
    have := Lib.repeatL_replicate 0 1 64
    simpa using this
  refine ⟨by rw [ba_size, hb]; simp, ?_⟩
  rw [hb, List.drop_replicate]
  intro h
  have h0 : tagL 0 = List.replicate 4 0 := rfl
  have := tagL_inj ((number + 1) % 4294967296) 0 (by omega) (by omega) (by omega) (by omega) (by rw [h0]; exact h.symm)
  omega
theorem far_blk (number other : Int) (ha : 0 ≤ number) (ha2 : number < 4294967295) (hb : 0 ≤ other) (hb2 : other < 4294967295) (hne : number ≠ other) (L : List UInt8) (c : Nat) : ∀ r i, ∀ x ∈ blkR other L c i r, Far number x
  | 0, i, x, h => by simp [blkR] at h
  | r + 1, i, x, h => by
    simp only [blkR, List.mem_cons] at h
    rcases h with rfl | h
    · exact far_other number other ha ha2 hb hb2 hne _ _ _ (chunk_le _ _)
    · exact far_blk number other ha ha2 hb hb2 hne L c r (i + 1) x h
end Go.Proofs.Ytckfkbmefdmedaa
namespace Go.Proofs.Ytckfkbmefdmedaa.Q
open Go.RowKit Go.Proofs.YtckfkbmefdmedaaW.PrintWords Go.Proofs.YtckfkbmefdmedaaW.PrintLast Go.Proofs.YtckfkbmefdmedaaW.PrintMore
attribute [local go_sem] max2_int min2_int max_two min_two max_three min_three max_four min_four   -- for this text's walks alone
set_option linter.unusedVariables false
set_option linter.unusedSimpArgs false
def souklaw04_lives.f (k : Nat)  : Option (Bool) := (strings_Repeat.f (⟨#[97]⟩ : ByteArray) 50).bind fun t123 => ((block_Pack.f k 7 t123).bind fun bt124 => (if bt124.2 = 0 then (if (bt124.1.length : Int) = 2 then (if 0 < (bt124.1.length : Int) then (if ((rdOf ByteArray.empty bt124.1 0).size : Int) = 64 then (if 6 < ((rdOf ByteArray.empty bt124.1 0).size : Int) then (if (bt (rdOf ByteArray.empty bt124.1 0) 6) = 49 then (if 1 < (bt124.1.length : Int) then (if 6 < ((rdOf ByteArray.empty bt124.1 1).size : Int) then (if (bt (rdOf ByteArray.empty bt124.1 1) 6) = 1 then (some true) else (some false)) else (none)) else (none)) else (some false)) else (none)) else (some false)) else (none)) else (some false)) else (some false)))
set_option maxHeartbeats 8000000 in
set_option maxRecDepth 100000 in
theorem souklaw04_lives.calls (k : Nat)  (r : Bool) (w : World) (h : souklaw04_lives.f k  = some r) :
  Calls Try.prog 13 #[] w fun e w' => e = .returned (.bool r) ∧ Below w.heap.size w w' := by
 have HB := Aside0.mk (Below.refl w.heap.size w)
 have H : ((strings_Repeat.f (⟨#[97]⟩ : ByteArray) 50).bind fun t123 => ((block_Pack.f k 7 t123).bind fun bt124 => (if bt124.2 = 0 then (if (bt124.1.length : Int) = 2 then (if 0 < (bt124.1.length : Int) then (if ((rdOf ByteArray.empty bt124.1 0).size : Int) = 64 then (if 6 < ((rdOf ByteArray.empty bt124.1 0).size : Int) then (if (bt (rdOf ByteArray.empty bt124.1 0) 6) = 49 then (if 1 < (bt124.1.length : Int) then (if 6 < ((rdOf ByteArray.empty bt124.1 1).size : Int) then (if (bt (rdOf ByteArray.empty bt124.1 1) 6) = 1 then (some true) else (some false)) else (none)) else (none)) else (some false)) else (none)) else (some false)) else (none)) else (some false)) else (some false)))) = some r := h
 clear h
 replace H := Option.bind_eq_some_iff.mp H
 obtain ⟨t123, A10, H⟩ := H
 replace H : ((block_Pack.f k 7 t123).bind fun bt124 => (if bt124.2 = 0 then (if (bt124.1.length : Int) = 2 then (if 0 < (bt124.1.length : Int) then (if ((rdOf ByteArray.empty bt124.1 0).size : Int) = 64 then (if 6 < ((rdOf ByteArray.empty bt124.1 0).size : Int) then (if (bt (rdOf ByteArray.empty bt124.1 0) 6) = 49 then (if 1 < (bt124.1.length : Int) then (if 6 < ((rdOf ByteArray.empty bt124.1 1).size : Int) then (if (bt (rdOf ByteArray.empty bt124.1 1) 6) = 1 then (some true) else (some false)) else (none)) else (none)) else (some false)) else (none)) else (some false)) else (none)) else (some false)) else (some false))) = some r := H
 have A1 := Aside0.mk A10
 clear A10
 replace H := Option.bind_eq_some_iff.mp H
 obtain ⟨⟨t124, t125⟩, A20, H⟩ := H
 replace H : (if t125 = 0 then (if (t124.length : Int) = 2 then (if 0 < (t124.length : Int) then (if ((rdOf ByteArray.empty t124 0).size : Int) = 64 then (if 6 < ((rdOf ByteArray.empty t124 0).size : Int) then (if (bt (rdOf ByteArray.empty t124 0) 6) = 49 then (if 1 < (t124.length : Int) then (if 6 < ((rdOf ByteArray.empty t124 1).size : Int) then (if (bt (rdOf ByteArray.empty t124 1) 6) = 1 then (some true) else (some false)) else (none)) else (none)) else (some false)) else (none)) else (some false)) else (none)) else (some false)) else (some false)) = some r := H
 have A2 := Aside0.mk A20
 clear A20
 by_cases c3 : t125 = 0
 ·rw [if_pos c3] at H
  have c3b0 : (t125 == 0) = true := beq_iff_eq.mpr c3
  have c3b1 : (t125 != 0) = false := bne_eq_false_iff_eq.mpr c3
  clear c3
  by_cases c4 : (t124.length : Int) = 2
  ·rw [if_pos c4] at H
   have c4b0 : ((t124.length : Int) == 2) = true := beq_iff_eq.mpr c4
   have c4b1 : ((t124.length : Int) != 2) = false := bne_eq_false_iff_eq.mpr c4
   clear c4
   by_cases c5 : 0 < (t124.length : Int)
   ·rw [if_pos c5] at H
    have c5b0 : decide (0 < (t124.length : Int)) = true := decide_eq_true c5
    have c5b1 : decide (0 < t124.length) = true := decide_eq_true (by omega)
    clear c5
    by_cases c6 : ((rdOf ByteArray.empty t124 0).size : Int) = 64
    ·rw [if_pos c6] at H
     have c6b0 : (((rdOf ByteArray.empty t124 0).size : Int) == 64) = true := beq_iff_eq.mpr c6
     have c6b1 : (((rdOf ByteArray.empty t124 0).size : Int) != 64) = false := bne_eq_false_iff_eq.mpr c6
     clear c6
     by_cases c7 : 6 < ((rdOf ByteArray.empty t124 0).size : Int)
     ·rw [if_pos c7] at H
      have c7b0 : decide (6 < ((rdOf ByteArray.empty t124 0).size : Int)) = true := decide_eq_true c7
      have c7b1 : decide (6 < (rdOf ByteArray.empty t124 0).size) = true := decide_eq_true (by omega)
      clear c7
      by_cases c9 : (bt (rdOf ByteArray.empty t124 0) 6) = 49
      ·rw [if_pos c9] at H
       have c9b0 : ((bt (rdOf ByteArray.empty t124 0) 6) == 49) = true := beq_iff_eq.mpr c9
       have c9b1 : ((bt (rdOf ByteArray.empty t124 0) 6) != 49) = false := bne_eq_false_iff_eq.mpr c9
       clear c9
       by_cases c10 : 1 < (t124.length : Int)
       ·rw [if_pos c10] at H
        have c10b0 : decide (1 < (t124.length : Int)) = true := decide_eq_true c10
        have c10b1 : decide (1 < t124.length) = true := decide_eq_true (by omega)
        clear c10
        by_cases c11 : 6 < ((rdOf ByteArray.empty t124 1).size : Int)
        ·rw [if_pos c11] at H
         have c11b0 : decide (6 < ((rdOf ByteArray.empty t124 1).size : Int)) = true := decide_eq_true c11
         have c11b1 : decide (6 < (rdOf ByteArray.empty t124 1).size) = true := decide_eq_true (by omega)
         clear c11
         by_cases c13 : (bt (rdOf ByteArray.empty t124 1) 6) = 1
         ·rw [if_pos c13] at H
          have c13b0 : ((bt (rdOf ByteArray.empty t124 1) 6) == 1) = true := beq_iff_eq.mpr c13
          have c13b1 : ((bt (rdOf ByteArray.empty t124 1) 6) != 1) = false := bne_eq_false_iff_eq.mpr c13
          clear c13
          obtain rfl := Option.some.inj H
          go_enter Try.func13, Try.ntmps13
          go_wp2_with (first | ((with_reducible refine gate_callee (f := 17) rfl ?_); refine goesL_ (some 4) rfl rfl Try.func17 (by kernel_rfl) rfl #[.string (⟨#[97]⟩ : ByteArray), .int .i64 50] rfl (by (try simp only [List.map_toArray, List.map_cons, List.map_nil]); first | done | rfl | (simp only [List.length_drop, List.length_take]; rfl)) ?_; (with_reducible refine (strings_Repeat.calls (⟨#[97]⟩ : ByteArray) 50 t123 _ A1.out).mono ?_); rintro e w14 ⟨rfl, hb⟩; refine ⟨_, rfl, ?_⟩; have n0_ := Aside0.mk (below_step (by repeat (first | (with_reducible first | exact HB.out | apply below_alloc | apply pw_below_drewN | apply below_drew1) | exact HB.out)) hb); clear HB; have HB := n0_; clear n0_; (try clear hb); (try clear hb2); (try clear hk); (try clear hi)) | ((with_reducible refine gate_callee (f := 16) rfl ?_); refine goesL_ (some 5) rfl rfl Try.func16 (by kernel_rfl) rfl #[.int .i64 7, .string t123] rfl (by (try simp only [List.map_toArray, List.map_cons, List.map_nil]); first | done | rfl | (simp only [List.length_drop, List.length_take]; rfl)) ?_; (with_reducible refine (block_Pack.calls k 7 t123 t124 t125 _ A2.out).mono ?_); rintro e w15 ⟨v126, rfl, ho0, hb⟩; refine ⟨_, rfl, ?_⟩; have n0_ := Aside0.mk (Kd.R_lower ho0 (below_size (by repeat (first | (with_reducible first | exact HB.out | apply below_alloc | apply pw_below_drewN | apply below_drew1) | exact HB.out)))); have n1_ := Aside0.mk (below_step (by repeat (first | (with_reducible first | exact HB.out | apply below_alloc | apply pw_below_drewN | apply below_drew1) | exact HB.out)) hb); clear HB; have HO127 := n0_; have HB := n1_; clear n0_ n1_; (try clear hb); (try clear hb2); (try clear hk); (try clear hi); (try clear ho0); obtain ⟨Ao16, co16, eo16⟩ := Kd.R_slice HO127.out; subst eo16; have p128 : 0 ≤ (0 : Int) := (by omega); have q128 : 0 < (t124.length : Int) := of_decide_eq_true (by first | (with_reducible assumption) | assumption); obtain ⟨ad128, e128, hx128_0⟩ := Kd.at_string (Kd.R_reads' HO127.out).2.2 0 p128 q128; cases e128; have qi128 : (0 < t124.length) = True := eq_true (by omega); (try rw [show ((0 : Int)).toNat = 0 from rfl] at hx128_0); (try rw [Addr.add_zero'] at hx128_0); replace p128 := eq_true p128; replace q128 := eq_true q128; have p129 : 0 ≤ (0 : Int) := (by omega); have q129 : 0 < (t124.length : Int) := of_decide_eq_true (by first | (with_reducible assumption) | assumption); obtain ⟨ad129, e129, hx129_0⟩ := Kd.at_string (Kd.R_reads' HO127.out).2.2 0 p129 q129; obtain rfl : ad128 = ad129 := (by injection e129); have qi129 : (0 < t124.length) = True := eq_true (by omega); (try rw [show ((0 : Int)).toNat = 0 from rfl] at hx129_0); (try rw [Addr.add_zero'] at hx129_0); replace p129 := eq_true p129; replace q129 := eq_true q129; have p8 : 0 ≤ (6 : Int) := (by omega); have q8 : 6 < (rdOf ByteArray.empty t124 0).size := (by have : (6 : Int) < ((rdOf ByteArray.empty t124 0).size : Int) := of_decide_eq_true (by first | (with_reducible assumption) | assumption); omega); have hx8 : ∀ h : 6 < (rdOf ByteArray.empty t124 0).size, (((rdOf ByteArray.empty t124 0)[6]'h).toNat : Int) = bt (rdOf ByteArray.empty t124 0) 6 := bt_at (rdOf ByteArray.empty t124 0) 6; clear p8; have qi8 : (6 < ((rdOf ByteArray.empty t124 0).size : Int)) = True := eq_true (of_decide_eq_true (by first | (with_reducible assumption) | assumption)); replace q8 := eq_true q8; have p130 : 0 ≤ (1 : Int) := (by omega); have q130 : 1 < (t124.length : Int) := of_decide_eq_true (by first | (with_reducible assumption) | assumption); obtain ⟨ad130, e130, hx130_0⟩ := Kd.at_string (Kd.R_reads' HO127.out).2.2 1 p130 q130; obtain rfl : ad128 = ad130 := (by injection e130); (try simp only [show (1 : Int).toNat = 1 from rfl, Nat.reduceMul, Nat.reduceEqDiff, Go.Addr.add, ↓reduceIte] at hx130_0); have qi130 : (1 < t124.length) = True := eq_true (by omega); (try rw [show ((1 : Int)).toNat = 1 from rfl] at hx130_0); replace p130 := eq_true p130; replace q130 := eq_true q130; have p12 : 0 ≤ (6 : Int) := (by omega); have q12 : 6 < (rdOf ByteArray.empty t124 1).size := (by have : (6 : Int) < ((rdOf ByteArray.empty t124 1).size : Int) := of_decide_eq_true (by first | (with_reducible assumption) | assumption); omega); have hx12 : ∀ h : 6 < (rdOf ByteArray.empty t124 1).size, (((rdOf ByteArray.empty t124 1)[6]'h).toNat : Int) = bt (rdOf ByteArray.empty t124 1) 6 := bt_at (rdOf ByteArray.empty t124 1) 6; clear p12; have qi12 : (6 < ((rdOf ByteArray.empty t124 1).size : Int)) = True := eq_true (of_decide_eq_true (by first | (with_reducible assumption) | assumption)); replace q12 := eq_true q12))
          go_ret
          exact ⟨by first | rfl | (simp [errW_none, errW_some] <;> rfl) | (simp [*, errW_none, errW_some] <;> rfl), by repeat (first | (with_reducible first | exact HB.out | apply below_alloc | apply pw_below_drewN | apply below_drew1) | exact HB.out)⟩
         ·rw [if_neg c13] at H
          have c13b0 : ((bt (rdOf ByteArray.empty t124 1) 6) == 1) = false := beq_eq_false_iff_ne.mpr c13
          have c13b1 : ((bt (rdOf ByteArray.empty t124 1) 6) != 1) = true := bne_iff_ne.mpr c13
          obtain rfl := Option.some.inj H
          go_enter Try.func13, Try.ntmps13
          go_wp2_with (first | ((with_reducible refine gate_callee (f := 17) rfl ?_); refine goesL_ (some 4) rfl rfl Try.func17 (by kernel_rfl) rfl #[.string (⟨#[97]⟩ : ByteArray), .int .i64 50] rfl (by (try simp only [List.map_toArray, List.map_cons, List.map_nil]); first | done | rfl | (simp only [List.length_drop, List.length_take]; rfl)) ?_; (with_reducible refine (strings_Repeat.calls (⟨#[97]⟩ : ByteArray) 50 t123 _ A1.out).mono ?_); rintro e w17 ⟨rfl, hb⟩; refine ⟨_, rfl, ?_⟩; have n0_ := Aside0.mk (below_step (by repeat (first | (with_reducible first | exact HB.out | apply below_alloc | apply pw_below_drewN | apply below_drew1) | exact HB.out)) hb); clear HB; have HB := n0_; clear n0_; (try clear hb); (try clear hb2); (try clear hk); (try clear hi)) | ((with_reducible refine gate_callee (f := 16) rfl ?_); refine goesL_ (some 5) rfl rfl Try.func16 (by kernel_rfl) rfl #[.int .i64 7, .string t123] rfl (by (try simp only [List.map_toArray, List.map_cons, List.map_nil]); first | done | rfl | (simp only [List.length_drop, List.length_take]; rfl)) ?_; (with_reducible refine (block_Pack.calls k 7 t123 t124 t125 _ A2.out).mono ?_); rintro e w18 ⟨v126, rfl, ho0, hb⟩; refine ⟨_, rfl, ?_⟩; have n0_ := Aside0.mk (Kd.R_lower ho0 (below_size (by repeat (first | (with_reducible first | exact HB.out | apply below_alloc | apply pw_below_drewN | apply below_drew1) | exact HB.out)))); have n1_ := Aside0.mk (below_step (by repeat (first | (with_reducible first | exact HB.out | apply below_alloc | apply pw_below_drewN | apply below_drew1) | exact HB.out)) hb); clear HB; have HO127 := n0_; have HB := n1_; clear n0_ n1_; (try clear hb); (try clear hb2); (try clear hk); (try clear hi); (try clear ho0); obtain ⟨Ao19, co19, eo19⟩ := Kd.R_slice HO127.out; subst eo19; have p128 : 0 ≤ (0 : Int) := (by omega); have q128 : 0 < (t124.length : Int) := of_decide_eq_true (by first | (with_reducible assumption) | assumption); obtain ⟨ad128, e128, hx128_0⟩ := Kd.at_string (Kd.R_reads' HO127.out).2.2 0 p128 q128; cases e128; have qi128 : (0 < t124.length) = True := eq_true (by omega); (try rw [show ((0 : Int)).toNat = 0 from rfl] at hx128_0); (try rw [Addr.add_zero'] at hx128_0); replace p128 := eq_true p128; replace q128 := eq_true q128; have p129 : 0 ≤ (0 : Int) := (by omega); have q129 : 0 < (t124.length : Int) := of_decide_eq_true (by first | (with_reducible assumption) | assumption); obtain ⟨ad129, e129, hx129_0⟩ := Kd.at_string (Kd.R_reads' HO127.out).2.2 0 p129 q129; obtain rfl : ad128 = ad129 := (by injection e129); have qi129 : (0 < t124.length) = True := eq_true (by omega); (try rw [show ((0 : Int)).toNat = 0 from rfl] at hx129_0); (try rw [Addr.add_zero'] at hx129_0); replace p129 := eq_true p129; replace q129 := eq_true q129; have p8 : 0 ≤ (6 : Int) := (by omega); have q8 : 6 < (rdOf ByteArray.empty t124 0).size := (by have : (6 : Int) < ((rdOf ByteArray.empty t124 0).size : Int) := of_decide_eq_true (by first | (with_reducible assumption) | assumption); omega); have hx8 : ∀ h : 6 < (rdOf ByteArray.empty t124 0).size, (((rdOf ByteArray.empty t124 0)[6]'h).toNat : Int) = bt (rdOf ByteArray.empty t124 0) 6 := bt_at (rdOf ByteArray.empty t124 0) 6; clear p8; have qi8 : (6 < ((rdOf ByteArray.empty t124 0).size : Int)) = True := eq_true (of_decide_eq_true (by first | (with_reducible assumption) | assumption)); replace q8 := eq_true q8; have p130 : 0 ≤ (1 : Int) := (by omega); have q130 : 1 < (t124.length : Int) := of_decide_eq_true (by first | (with_reducible assumption) | assumption); obtain ⟨ad130, e130, hx130_0⟩ := Kd.at_string (Kd.R_reads' HO127.out).2.2 1 p130 q130; obtain rfl : ad128 = ad130 := (by injection e130); (try simp only [show (1 : Int).toNat = 1 from rfl, Nat.reduceMul, Nat.reduceEqDiff, Go.Addr.add, ↓reduceIte] at hx130_0); have qi130 : (1 < t124.length) = True := eq_true (by omega); (try rw [show ((1 : Int)).toNat = 1 from rfl] at hx130_0); replace p130 := eq_true p130; replace q130 := eq_true q130; have p12 : 0 ≤ (6 : Int) := (by omega); have q12 : 6 < (rdOf ByteArray.empty t124 1).size := (by have : (6 : Int) < ((rdOf ByteArray.empty t124 1).size : Int) := of_decide_eq_true (by first | (with_reducible assumption) | assumption); omega); have hx12 : ∀ h : 6 < (rdOf ByteArray.empty t124 1).size, (((rdOf ByteArray.empty t124 1)[6]'h).toNat : Int) = bt (rdOf ByteArray.empty t124 1) 6 := bt_at (rdOf ByteArray.empty t124 1) 6; clear p12; have qi12 : (6 < ((rdOf ByteArray.empty t124 1).size : Int)) = True := eq_true (of_decide_eq_true (by first | (with_reducible assumption) | assumption)); replace q12 := eq_true q12))
          go_ret
          exact ⟨by first | rfl | (simp [errW_none, errW_some] <;> rfl) | (simp [*, errW_none, errW_some] <;> rfl), by repeat (first | (with_reducible first | exact HB.out | apply below_alloc | apply pw_below_drewN | apply below_drew1) | exact HB.out)⟩
        ·rw [if_neg c11] at H
         exact absurd H (by simp)
       ·rw [if_neg c10] at H
        exact absurd H (by simp)
      ·rw [if_neg c9] at H
       have c9b0 : ((bt (rdOf ByteArray.empty t124 0) 6) == 49) = false := beq_eq_false_iff_ne.mpr c9
       have c9b1 : ((bt (rdOf ByteArray.empty t124 0) 6) != 49) = true := bne_iff_ne.mpr c9
       obtain rfl := Option.some.inj H
       go_enter Try.func13, Try.ntmps13
       go_wp2_with (first | ((with_reducible refine gate_callee (f := 17) rfl ?_); refine goesL_ (some 4) rfl rfl Try.func17 (by kernel_rfl) rfl #[.string (⟨#[97]⟩ : ByteArray), .int .i64 50] rfl (by (try simp only [List.map_toArray, List.map_cons, List.map_nil]); first | done | rfl | (simp only [List.length_drop, List.length_take]; rfl)) ?_; (with_reducible refine (strings_Repeat.calls (⟨#[97]⟩ : ByteArray) 50 t123 _ A1.out).mono ?_); rintro e w20 ⟨rfl, hb⟩; refine ⟨_, rfl, ?_⟩; have n0_ := Aside0.mk (below_step (by repeat (first | (with_reducible first | exact HB.out | apply below_alloc | apply pw_below_drewN | apply below_drew1) | exact HB.out)) hb); clear HB; have HB := n0_; clear n0_; (try clear hb); (try clear hb2); (try clear hk); (try clear hi)) | ((with_reducible refine gate_callee (f := 16) rfl ?_); refine goesL_ (some 5) rfl rfl Try.func16 (by kernel_rfl) rfl #[.int .i64 7, .string t123] rfl (by (try simp only [List.map_toArray, List.map_cons, List.map_nil]); first | done | rfl | (simp only [List.length_drop, List.length_take]; rfl)) ?_; (with_reducible refine (block_Pack.calls k 7 t123 t124 t125 _ A2.out).mono ?_); rintro e w21 ⟨v126, rfl, ho0, hb⟩; refine ⟨_, rfl, ?_⟩; have n0_ := Aside0.mk (Kd.R_lower ho0 (below_size (by repeat (first | (with_reducible first | exact HB.out | apply below_alloc | apply pw_below_drewN | apply below_drew1) | exact HB.out)))); have n1_ := Aside0.mk (below_step (by repeat (first | (with_reducible first | exact HB.out | apply below_alloc | apply pw_below_drewN | apply below_drew1) | exact HB.out)) hb); clear HB; have HO127 := n0_; have HB := n1_; clear n0_ n1_; (try clear hb); (try clear hb2); (try clear hk); (try clear hi); (try clear ho0); obtain ⟨Ao22, co22, eo22⟩ := Kd.R_slice HO127.out; subst eo22; have p128 : 0 ≤ (0 : Int) := (by omega); have q128 : 0 < (t124.length : Int) := of_decide_eq_true (by first | (with_reducible assumption) | assumption); obtain ⟨ad128, e128, hx128_0⟩ := Kd.at_string (Kd.R_reads' HO127.out).2.2 0 p128 q128; cases e128; have qi128 : (0 < t124.length) = True := eq_true (by omega); (try rw [show ((0 : Int)).toNat = 0 from rfl] at hx128_0); (try rw [Addr.add_zero'] at hx128_0); replace p128 := eq_true p128; replace q128 := eq_true q128; have p129 : 0 ≤ (0 : Int) := (by omega); have q129 : 0 < (t124.length : Int) := of_decide_eq_true (by first | (with_reducible assumption) | assumption); obtain ⟨ad129, e129, hx129_0⟩ := Kd.at_string (Kd.R_reads' HO127.out).2.2 0 p129 q129; obtain rfl : ad128 = ad129 := (by injection e129); have qi129 : (0 < t124.length) = True := eq_true (by omega); (try rw [show ((0 : Int)).toNat = 0 from rfl] at hx129_0); (try rw [Addr.add_zero'] at hx129_0); replace p129 := eq_true p129; replace q129 := eq_true q129; have p8 : 0 ≤ (6 : Int) := (by omega); have q8 : 6 < (rdOf ByteArray.empty t124 0).size := (by have : (6 : Int) < ((rdOf ByteArray.empty t124 0).size : Int) := of_decide_eq_true (by first | (with_reducible assumption) | assumption); omega); have hx8 : ∀ h : 6 < (rdOf ByteArray.empty t124 0).size, (((rdOf ByteArray.empty t124 0)[6]'h).toNat : Int) = bt (rdOf ByteArray.empty t124 0) 6 := bt_at (rdOf ByteArray.empty t124 0) 6; clear p8; have qi8 : (6 < ((rdOf ByteArray.empty t124 0).size : Int)) = True := eq_true (of_decide_eq_true (by first | (with_reducible assumption) | assumption)); replace q8 := eq_true q8))
       go_ret
       exact ⟨by first | rfl | (simp [errW_none, errW_some] <;> rfl) | (simp [*, errW_none, errW_some] <;> rfl), by repeat (first | (with_reducible first | exact HB.out | apply below_alloc | apply pw_below_drewN | apply below_drew1) | exact HB.out)⟩
     ·rw [if_neg c7] at H
      exact absurd H (by simp)
    ·rw [if_neg c6] at H
     have c6b0 : (((rdOf ByteArray.empty t124 0).size : Int) == 64) = false := beq_eq_false_iff_ne.mpr c6
     have c6b1 : (((rdOf ByteArray.empty t124 0).size : Int) != 64) = true := bne_iff_ne.mpr c6
     obtain rfl := Option.some.inj H
     go_enter Try.func13, Try.ntmps13
     go_wp2_with (first | ((with_reducible refine gate_callee (f := 17) rfl ?_); refine goesL_ (some 4) rfl rfl Try.func17 (by kernel_rfl) rfl #[.string (⟨#[97]⟩ : ByteArray), .int .i64 50] rfl (by (try simp only [List.map_toArray, List.map_cons, List.map_nil]); first | done | rfl | (simp only [List.length_drop, List.length_take]; rfl)) ?_; (with_reducible refine (strings_Repeat.calls (⟨#[97]⟩ : ByteArray) 50 t123 _ A1.out).mono ?_); rintro e w23 ⟨rfl, hb⟩; refine ⟨_, rfl, ?_⟩; have n0_ := Aside0.mk (below_step (by repeat (first | (with_reducible first | exact HB.out | apply below_alloc | apply pw_below_drewN | apply below_drew1) | exact HB.out)) hb); clear HB; have HB := n0_; clear n0_; (try clear hb); (try clear hb2); (try clear hk); (try clear hi)) | ((with_reducible refine gate_callee (f := 16) rfl ?_); refine goesL_ (some 5) rfl rfl Try.func16 (by kernel_rfl) rfl #[.int .i64 7, .string t123] rfl (by (try simp only [List.map_toArray, List.map_cons, List.map_nil]); first | done | rfl | (simp only [List.length_drop, List.length_take]; rfl)) ?_; (with_reducible refine (block_Pack.calls k 7 t123 t124 t125 _ A2.out).mono ?_); rintro e w24 ⟨v126, rfl, ho0, hb⟩; refine ⟨_, rfl, ?_⟩; have n0_ := Aside0.mk (Kd.R_lower ho0 (below_size (by repeat (first | (with_reducible first | exact HB.out | apply below_alloc | apply pw_below_drewN | apply below_drew1) | exact HB.out)))); have n1_ := Aside0.mk (below_step (by repeat (first | (with_reducible first | exact HB.out | apply below_alloc | apply pw_below_drewN | apply below_drew1) | exact HB.out)) hb); clear HB; have HO127 := n0_; have HB := n1_; clear n0_ n1_; (try clear hb); (try clear hb2); (try clear hk); (try clear hi); (try clear ho0); obtain ⟨Ao25, co25, eo25⟩ := Kd.R_slice HO127.out; subst eo25; have p128 : 0 ≤ (0 : Int) := (by omega); have q128 : 0 < (t124.length : Int) := of_decide_eq_true (by first | (with_reducible assumption) | assumption); obtain ⟨ad128, e128, hx128_0⟩ := Kd.at_string (Kd.R_reads' HO127.out).2.2 0 p128 q128; cases e128; have qi128 : (0 < t124.length) = True := eq_true (by omega); (try rw [show ((0 : Int)).toNat = 0 from rfl] at hx128_0); (try rw [Addr.add_zero'] at hx128_0); replace p128 := eq_true p128; replace q128 := eq_true q128))
     go_ret
     exact ⟨by first | rfl | (simp [errW_none, errW_some] <;> rfl) | (simp [*, errW_none, errW_some] <;> rfl), by repeat (first | (with_reducible first | exact HB.out | apply below_alloc | apply pw_below_drewN | apply below_drew1) | exact HB.out)⟩
   ·rw [if_neg c5] at H
    exact absurd H (by simp)
  ·rw [if_neg c4] at H
   have c4b0 : ((t124.length : Int) == 2) = false := beq_eq_false_iff_ne.mpr c4
   have c4b1 : ((t124.length : Int) != 2) = true := bne_iff_ne.mpr c4
   obtain rfl := Option.some.inj H
   go_enter Try.func13, Try.ntmps13
   go_wp2_with (first | ((with_reducible refine gate_callee (f := 17) rfl ?_); refine goesL_ (some 4) rfl rfl Try.func17 (by kernel_rfl) rfl #[.string (⟨#[97]⟩ : ByteArray), .int .i64 50] rfl (by (try simp only [List.map_toArray, List.map_cons, List.map_nil]); first | done | rfl | (simp only [List.length_drop, List.length_take]; rfl)) ?_; (with_reducible refine (strings_Repeat.calls (⟨#[97]⟩ : ByteArray) 50 t123 _ A1.out).mono ?_); rintro e w26 ⟨rfl, hb⟩; refine ⟨_, rfl, ?_⟩; have n0_ := Aside0.mk (below_step (by repeat (first | (with_reducible first | exact HB.out | apply below_alloc | apply pw_below_drewN | apply below_drew1) | exact HB.out)) hb); clear HB; have HB := n0_; clear n0_; (try clear hb); (try clear hb2); (try clear hk); (try clear hi)) | ((with_reducible refine gate_callee (f := 16) rfl ?_); refine goesL_ (some 5) rfl rfl Try.func16 (by kernel_rfl) rfl #[.int .i64 7, .string t123] rfl (by (try simp only [List.map_toArray, List.map_cons, List.map_nil]); first | done | rfl | (simp only [List.length_drop, List.length_take]; rfl)) ?_; (with_reducible refine (block_Pack.calls k 7 t123 t124 t125 _ A2.out).mono ?_); rintro e w27 ⟨v126, rfl, ho0, hb⟩; refine ⟨_, rfl, ?_⟩; have n0_ := Aside0.mk (Kd.R_lower ho0 (below_size (by repeat (first | (with_reducible first | exact HB.out | apply below_alloc | apply pw_below_drewN | apply below_drew1) | exact HB.out)))); have n1_ := Aside0.mk (below_step (by repeat (first | (with_reducible first | exact HB.out | apply below_alloc | apply pw_below_drewN | apply below_drew1) | exact HB.out)) hb); clear HB; have HO127 := n0_; have HB := n1_; clear n0_ n1_; (try clear hb); (try clear hb2); (try clear hk); (try clear hi); (try clear ho0); obtain ⟨Ao28, co28, eo28⟩ := Kd.R_slice HO127.out; subst eo28))
   go_ret
   exact ⟨by first | rfl | (simp [errW_none, errW_some] <;> rfl) | (simp [*, errW_none, errW_some] <;> rfl), by repeat (first | (with_reducible first | exact HB.out | apply below_alloc | apply pw_below_drewN | apply below_drew1) | exact HB.out)⟩
 ·rw [if_neg c3] at H
  have c3b0 : (t125 == 0) = false := beq_eq_false_iff_ne.mpr c3
  have c3b1 : (t125 != 0) = true := bne_iff_ne.mpr c3
  obtain rfl := Option.some.inj H
  go_enter Try.func13, Try.ntmps13
  go_wp2_with (first | ((with_reducible refine gate_callee (f := 17) rfl ?_); refine goesL_ (some 4) rfl rfl Try.func17 (by kernel_rfl) rfl #[.string (⟨#[97]⟩ : ByteArray), .int .i64 50] rfl (by (try simp only [List.map_toArray, List.map_cons, List.map_nil]); first | done | rfl | (simp only [List.length_drop, List.length_take]; rfl)) ?_; (with_reducible refine (strings_Repeat.calls (⟨#[97]⟩ : ByteArray) 50 t123 _ A1.out).mono ?_); rintro e w29 ⟨rfl, hb⟩; refine ⟨_, rfl, ?_⟩; have n0_ := Aside0.mk (below_step (by repeat (first | (with_reducible first | exact HB.out | apply below_alloc | apply pw_below_drewN | apply below_drew1) | exact HB.out)) hb); clear HB; have HB := n0_; clear n0_; (try clear hb); (try clear hb2); (try clear hk); (try clear hi)) | ((with_reducible refine gate_callee (f := 16) rfl ?_); refine goesL_ (some 5) rfl rfl Try.func16 (by kernel_rfl) rfl #[.int .i64 7, .string t123] rfl (by (try simp only [List.map_toArray, List.map_cons, List.map_nil]); first | done | rfl | (simp only [List.length_drop, List.length_take]; rfl)) ?_; (with_reducible refine (block_Pack.calls k 7 t123 t124 t125 _ A2.out).mono ?_); rintro e w30 ⟨v126, rfl, ho0, hb⟩; refine ⟨_, rfl, ?_⟩; have n0_ := Aside0.mk (Kd.R_lower ho0 (below_size (by repeat (first | (with_reducible first | exact HB.out | apply below_alloc | apply pw_below_drewN | apply below_drew1) | exact HB.out)))); have n1_ := Aside0.mk (below_step (by repeat (first | (with_reducible first | exact HB.out | apply below_alloc | apply pw_below_drewN | apply below_drew1) | exact HB.out)) hb); clear HB; have HO127 := n0_; have HB := n1_; clear n0_ n1_; (try clear hb); (try clear hb2); (try clear hk); (try clear hi); (try clear ho0)))
  go_ret
  exact ⟨by first | rfl | (simp [errW_none, errW_some] <;> rfl) | (simp [*, errW_none, errW_some] <;> rfl), by repeat (first | (with_reducible first | exact HB.out | apply below_alloc | apply pw_below_drewN | apply below_drew1) | exact HB.out)⟩
end Go.Proofs.Ytckfkbmefdmedaa.Q
namespace Go.Proofs.Ytckfkbmefdmedaa
open Go.RowKit Go.Proofs.Kq Go.Proofs.Ytckfkbmefdmedaa.Q Go.Proofs.YtckfkbmefdmedaaW.PrintWords Go
set_option linter.unusedVariables false
set_option linter.unusedSimpArgs false
theorem bt_len (s : ByteArray) (h : 6 < s.size) : bt s 6 = (lenB s : Int) := by
  rw [show bt s 6 = ((s[6]'h).toNat : Int) by simp [bt, h]]
  have e6 : (s[6]'h).toNat = lenB s := by simp [lenB, Array.getD, h]; rfl
  rw [e6]
def p50 : ByteArray := ⟨(Lib.repeatL [97] 50).toArray⟩
theorem p50_size : p50.size = 50 := by
  unfold p50; show (List.toArray _).size = 50; rw [List.size_toArray, Lib.repeatL_length]; rfl
theorem rep50 : strings_Repeat.f ⟨#[97]⟩ 50 = some p50 := by
  unfold strings_Repeat.f
  rw [if_pos ⟨by omega, by omega, by show 1 * _ ≤ _; omega⟩]
  have e1 : (50 : Int).toNat = 50 := rfl
  have e2 : (⟨#[97]⟩ : ByteArray).data.toList = [97] := rfl
  rw [e1, e2]; unfold p50; rfl
theorem lives_in (p : ByteArray) (hs : p.size = 50) (k : Nat) (hr : strings_Repeat.f ⟨#[97]⟩ 50 = some p) (h2 : block_Pack.f k 7 p = some (blkR 7 (bl p) 2 0 2, 0)) : souklaw04_lives.f k = some true := by
  have hl : (bl p).length = 50 := by rw [← ba_size, hs]
  unfold souklaw04_lives.f
  rw [hr, Option.bind_some, h2, Option.bind_some]
  have c0 := chunk_le (bl p) 0
  have c1 := chunk_le (bl p) 1
  have r0 : rdOf ByteArray.empty (blkR 7 (bl p) 2 0 2) 0 = oneF 7 0 2 (chunk (bl p) 0) := by simp [rdOf, blkR]
  have r1 : rdOf ByteArray.empty (blkR 7 (bl p) 2 0 2) 1 = oneF 7 1 2 (chunk (bl p) 1) := by simp [rdOf, blkR]
  have s0 := one_size 7 0 2 _ c0
  have s1 := one_size 7 1 2 _ c1
  have l0 := one_len 7 0 2 _ c0
  have l1 := one_len 7 1 2 _ c1
  rw [chunk_size, hl] at l0 l1
  rw [r0, r1, blkR_len]
  clear r0 r1 c0 c1 h2 hr
  generalize oneF 7 0 2 (chunk (bl p) 0) = z0 at *
  generalize oneF 7 1 2 (chunk (bl p) 1) = z1 at *
  have b0 := bt_len z0 (by omega)
  have b1 := bt_len z1 (by omega)
  rw [l0] at b0
  rw [l1] at b1
  rw [if_pos rfl, if_pos (by omega), if_pos (by omega), if_pos (by omega), if_pos (by omega), b0, if_pos (by omega), if_pos (by omega), if_pos (by omega), b1, if_pos (by omega)]
theorem lives04_ok : EvT (fun k => souklaw04_lives.f k) true := by
  obtain ⟨m, hm⟩ := pack_ok 7 p50 (by rw [p50_size]; omega)
  have hl : (bl p50).length = 50 := by rw [← ba_size, p50_size]
  have hpk : packF 7 (bl p50) = (blkR 7 (bl p50) 2 0 2, 0) := by
    unfold packF; rw [show cntL (bl p50).length = 2 by rw [hl]; rfl, if_neg (by omega)]
  rw [hpk] at hm
  exact ⟨m, fun k hk => lives_in p50 p50_size k rep50 (hm k hk)⟩
end Go.Proofs.Ytckfkbmefdmedaa
namespace Go.Proofs.Ytckfkbmefdmedaa
open Go.RowKit Go.Proofs.YtckfkbmefdmedaaW.PrintWords Go.Proofs.YtckfkbmefdmedaaW.PrintLast
set_option linter.unusedVariables false
set_option linter.unusedSimpArgs false
open Go.Proofs.Kq (Reads wpList_append_any)
theorem info9s : (Try.prog.info? 9).map (fun i => (i.zero, i.size, i.bytes)) = some (some (.string ⟨#[]⟩), 1, 16) := by kernel_rfl
theorem reads_strs {w : World} {A : Option Addr} {xs : List ByteArray} (h : Kd.C Kd.string w A xs.length xs) : Reads w w.heap.size 1 A xs.length (encs Value.string xs) := by
  refine ⟨by rw [encs_length]; omega, fun hn => ?_⟩
  obtain ⟨ad, e, hc⟩ := (Kd.reads_of_C (d := ByteArray.empty) h).2.2 hn
  refine ⟨ad, e, ?_, fun j u hu => ?_⟩
  · have := World.block_lt_of_cell? w _ (hc 0 hn)
    rwa [Kq.block_of_add] at this
  · obtain ⟨hj, hju⟩ := List.getElem?_eq_some_iff.1 hu
    rw [encs_length] at hj
    rw [hc j hj, List.getD_eq_getElem?_getD, List.getElem?_eq_getElem hj]
    simp [encs] at hju
    simp [hju]
theorem encs_ones (xs : List ByteArray) : ∀ u ∈ encs Value.string xs, u.oneCell' = true := by
  intro u hu; obtain ⟨z, _, rfl⟩ := List.mem_map.1 hu; rfl
def slices_Clone_string_string.f (l0 : List ByteArray) : Option (List ByteArray) := if 0 < l0.length ∧ l0.length ≤ 1000000 then some l0 else none
set_option maxRecDepth 100000 in
set_option maxHeartbeats 1000000 in
theorem slices_Clone_string_string.calls (A0 : Option Addr) (c0 : Nat) (l0 : List ByteArray) (r : List ByteArray) (w : World) (hr0 : Kd.C Kd.string w A0 l0.length l0) (hc0 : l0.length ≤ c0) (h : slices_Clone_string_string.f l0 = some r) :
    Calls Try.prog 18 #[.slice A0 l0.length c0] w fun e w' => ∃ v0_ : Value, e = .returned (v0_) ∧ Kd.R Kd.string 9 w' w.heap.size (fun _ => True) v0_ r ∧ Below w.heap.size w w' := by
  unfold slices_Clone_string_string.f at h
  split at h
  · rename_i hb
    cases h
    obtain ⟨i0, hi, hz0, hz1, hz2⟩ := info_parts info9s
    obtain ⟨ad, rfl, _⟩ := hr0.2.2 hb.1
    have he := fun w => Lib.run_eql_slice_nil (P := Try.prog) w 22 9 (some ad) l0.length c0 0 0 Try.underlying22
    have HR := reads_strs hr0
    have hb2 := hb.2
    clear hr0 hb
    go_enter Try.func18, Try.ntmps18
    go_wp2_with (at_builtin; refine wpList_append_any _ rfl (.tmp 5) (.tmp 6) 22 rfl w.heap.size 9 i0 (.string ⟨#[]⟩) 1 16 Try.underlying22 hi hz0 hz1 hz2 rfl (by decide) (.slice (some ⟨w.heap.size, 0, none⟩) 0 0) 0 [] rfl ?aO w.heap.size (some ad) l0.length c0 (encs Value.string l0) rfl ?aR (encs_ones l0) ?aM ?aB ?aS ?_; (case aO => exact ⟨rfl, .inr ⟨w.heap.size, 0, #[], rfl, Nat.le_refl _, by (show (w.heap.push _)[w.heap.size]? = _; simp), Nat.le_refl _, by decide, rfl, rfl⟩⟩); (case aR => exact HR.alloc (Nat.le_refl _) _); (case aM => simp only [maxLen]; omega); (case aB => omega); (case aS => simp); intro v1 w1 hown hg hat)
    go_ret
    exact ⟨_, rfl, Kd.R_of_own (by simpa using hown) (fun _ _ => trivial), (below_new (Below.refl _ _) _).grown hg (by simp) (fun k hk => by cases hk; exact Nat.le_refl _)⟩
  · cases h
end Go.Proofs.Ytckfkbmefdmedaa
namespace Go.Proofs.Ytckfkbmefdmedaa
open Go.RowKit Go.Proofs.Kq Go.Proofs.YtckfkbmefdmedaaW.PrintLast
open Go.Proofs.YtckfkbmefdmedaaW.PrintWords (pw_cell_below Kd Kd.C Kd.C_below Kd.R Kd.R_of_own Kd.R_reads encs encs_length)
set_option linter.unusedVariables false
set_option linter.unusedSimpArgs false
def OwnS (w : World) (base : Nat) (v : Value) (xs : List ByteArray) : Prop := w.ownsRow base 9 1 v xs.length (encs Value.string xs)
theorem own_base {w : World} {base : Nat} {v : Value} {xs : List ByteArray} (h : OwnS w base v xs) {k : Nat} (hk : v.ownBlock = some k) : base ≤ k := by
  rcases h.2 with ⟨rfl, _⟩ | ⟨g, cap, cur, rfl, hg, _⟩
  · cases hk
  · cases hk; exact hg
end Go.Proofs.Ytckfkbmefdmedaa
namespace Go.Proofs.Ytckfkbmefdmedaa
open Go.RowKit Go.Proofs.Kq Go.Proofs.Ytckfkbmefdmedaa.Q
open Go.Proofs.YtckfkbmefdmedaaW.PrintWords (pw_cell_below Kd Kd.C Kd.C_below Kd.R Kd.R_of_own Kd.R_reads encs encs_length rdOf)
set_option linter.unusedVariables false
set_option linter.unusedSimpArgs false
theorem OwnS.reads {w : World} {base : Nat} {v : Value} {xs : List ByteArray} (h : OwnS w base v xs) : ∃ A c, v = .slice A xs.length c ∧ xs.length ≤ c ∧ Kd.C Kd.string w A xs.length xs :=
  Kd.R_reads (Kd.R_of_own (enc := Value.string) (h1 := fun _ => rfl) (ok := fun _ => True) h (fun _ _ => trivial))
theorem lives04_calls (w : World) : Calls Try.prog 13 #[] w fun e w' => e = .returned (.bool true) ∧ Below w.heap.size w w' := by
  obtain ⟨K, hK⟩ := EvT.one lives04_ok
  exact souklaw04_lives.calls K true w hK
def TrueP (w : World) (e : Ending) (w' : World) : Prop := e = .returned (.bool true) ∧ Below w.heap.size w w'
theorem pack_calls (number : Int) (p : ByteArray) (l : List ByteArray) (r : Int) (w : World) (hp : p.size ≤ 1000000) (h : packF number (bl p) = (l, r)) : Calls Try.prog 16 #[.int .i64 number, .string p] w fun e w' => ∃ A c, e = .returned (.tuple #[.slice A l.length c, .int .i64 r]) ∧ l.length ≤ c ∧ Kd.C Kd.string w' A l.length l ∧ Below w.heap.size w w' := by
  obtain ⟨K, hK⟩ := EvT.one (pack_ok number p hp)
  refine (block_Pack.calls K number p l r w (by rw [hK, h])).mono ?_
  rintro e w' ⟨v, rfl, hR, hb⟩
  obtain ⟨A, c, rfl, hc, hC⟩ := Kd.R_reads hR
  exact ⟨A, c, rfl, hc, hC, hb⟩
theorem unpack_calls (number : Int) (A : Option Addr) (c : Nat) (l : List ByteArray) (r1 : ByteArray) (r2 r3 : Int) (w : World) (hC : Kd.C Kd.string w A l.length l) (hc : l.length ≤ c) (hl : l.length ≤ 1000000) (h : unpackF number l = (r1, r2, r3)) : Calls Try.prog 14 #[.int .i64 number, .slice A l.length c] w fun e w' => e = .returned (.tuple #[.string r1, .int .i64 r2, .int .i64 r3]) ∧ Below w.heap.size w w' :=
  block_Unpack.calls number A c l r1 r2 r3 w hC hc (by unfold block_Unpack.f; rw [if_pos (by omega), h])
end Go.Proofs.Ytckfkbmefdmedaa
namespace Go.Proofs.Ytckfkbmefdmedaa
open Go.RowKit Go.Proofs.Rk Go.Proofs.YtckfkbmefdmedaaW.PrintWords
set_option linter.unusedVariables false
set_option linter.unusedSimpArgs false
theorem cellsOf_5 : Try.prog.cellsOf 5 = 1 := by kernel_rfl
theorem cellsOf_9 : Try.prog.cellsOf 9 = 1 := by kernel_rfl
theorem len_2 {cs : List Value} (h : cs.length = 2) : ∃ c0 c1, cs = [c0, c1] := by
  match cs, h with
  | [c0, c1], _ => exact ⟨c0, c1, rfl⟩
structure A30 where
  f0 : Int
  f1 : Int
def A30.l (a : A30) : List Value := [.int .u8 a.f0, .int .u8 a.f1]
def k30 : Kn Try.prog 30 A30 where
  cells := A30.l
  ok a := (Kn.int Try.underlying5).ok a.f0 ∧ (Kn.int Try.underlying5).ok a.f1
  rd := by
    intro H enc w base spare held fuel cs x h
    obtain ⟨xs, m, _, _, hlen, hxl, hg⟩ := DataW.trod_array Try.underlying30 h
    have hlen' : cs.length = 2 := hlen.trans (by kernel_rfl)
    clear hlen h
    obtain ⟨c0, c1, rfl⟩ := len_2 hlen'
    clear hlen'
    obtain ⟨x0, g0⟩ := elt hg hxl 0 0 1 rfl (by decide) cellsOf_5
    obtain ⟨a0, e0, o0⟩ := (Kn.int Try.underlying5).rd g0
    have e0' : [c0] = [(.int .u8 a0 : Value)] := e0
    simp only [List.cons.injEq, and_true] at e0'
    obtain rfl := e0'
    obtain ⟨x1, g1⟩ := elt hg hxl 1 1 1 rfl (by decide) cellsOf_5
    obtain ⟨a1, e1, o1⟩ := (Kn.int Try.underlying5).rd g1
    have e1' : [c1] = [(.int .u8 a1 : Value)] := e1
    simp only [List.cons.injEq, and_true] at e1'
    obtain rfl := e1'
    exact ⟨⟨a0, a1⟩, rfl, ⟨o0, o1⟩⟩
structure A31 where
  f0 : ByteArray
  f1 : ByteArray
def A31.l (a : A31) : List Value := [.string a.f0, .string a.f1]
def k31 : Kn Try.prog 31 A31 where
  cells := A31.l
  ok a := (Kn.str Try.underlying9).ok a.f0 ∧ (Kn.str Try.underlying9).ok a.f1
  rd := by
    intro H enc w base spare held fuel cs x h
    obtain ⟨xs, m, _, _, hlen, hxl, hg⟩ := DataW.trod_array Try.underlying31 h
    have hlen' : cs.length = 2 := hlen.trans (by kernel_rfl)
    clear hlen h
    obtain ⟨c0, c1, rfl⟩ := len_2 hlen'
    clear hlen'
    obtain ⟨x0, g0⟩ := elt hg hxl 0 0 1 rfl (by decide) cellsOf_9
    obtain ⟨a0, e0, o0⟩ := (Kn.str Try.underlying9).rd g0
    have e0' : [c0] = [(.string a0 : Value)] := e0
    simp only [List.cons.injEq, and_true] at e0'
    obtain rfl := e0'
    obtain ⟨x1, g1⟩ := elt hg hxl 1 1 1 rfl (by decide) cellsOf_9
    obtain ⟨a1, e1, o1⟩ := (Kn.str Try.underlying9).rd g1
    have e1' : [c1] = [(.string a1 : Value)] := e1
    simp only [List.cons.injEq, and_true] at e1'
    obtain rfl := e1'
    exact ⟨⟨a0, a1⟩, rfl, ⟨o0, o1⟩⟩
end Go.Proofs.Ytckfkbmefdmedaa
namespace Go.Proofs.Ytckfkbmefdmedaa
open Go.RowKit Go.Proofs.Kq Go.Proofs.Ytckfkbmefdmedaa.Q
open Go.Proofs.YtckfkbmefdmedaaW.PrintWords (pw_cell_below Kd Kd.C Kd.C_below Kd.R Kd.R_of_own Kd.R_reads encs encs_length rdOf)
set_option linter.unusedVariables false
set_option linter.unusedSimpArgs false
def slN : Value → Nat
  | .slice _ m _ => m
  | _ => 0
theorem OwnS.below {w w' : World} {base : Nat} {v : Value} {xs : List ByteArray} (h : OwnS w base v xs) (hb : Below w.heap.size w w') : OwnS w' base v xs := by
  have e : encs Value.string xs = xs.flatMap fun s => [Value.string s] := by
    simp [encs, List.map_eq_flatMap]
  have ho : Own (fun s : ByteArray => [Value.string s]) 1 9 w base v xs := by unfold Own; rw [← e]; exact h
  have := ho.below hb
  unfold Own at this
  rw [← e] at this
  exact this
theorem one_cell (w : World) (a : Value) (T : TypeId) : (w.alloc (.cells #[a] T)).cell? ⟨w.heap.size, 0, none⟩ = some a := by
  have hh : (w.alloc (.cells #[a] T)).heap[w.heap.size]? = some (.cells #[a] T) := by show (w.heap.push _)[w.heap.size]? = _; simp
  simp only [World.cell?, hh, Option.isSome_none, Bool.false_eq_true, if_false]; rfl
theorem OwnS.snoc {w : World} {base : Nat} {v : Value} {xs : List ByteArray} {z : ByteArray} (h : w.ownsRow base 9 1 v (xs.length + 1) (encs Value.string xs ++ [.string z])) : OwnS w base v (xs ++ [z]) := by
  unfold OwnS; simpa [encs] using h
theorem rep64 : strings_Repeat.f ⟨#[0]⟩ 64 = some z64 := by
  unfold strings_Repeat.f
  rw [if_pos ⟨by omega, by omega, by show 1 * _ ≤ _; omega⟩]
  have e1 : (64 : Int).toNat = 64 := rfl
  have e2 : (⟨#[0]⟩ : ByteArray).data.toList = [0] := rfl
  rw [e1, e2]; unfold z64; rfl
theorem OwnS.open_ {w : World} {base : Nat} {A : Option Addr} {c : Nat} {xs : List ByteArray} (h : OwnS w base (.slice A xs.length c) xs) (h0 : 0 < xs.length) : ∃ g, A = some ⟨g, 0, none⟩ ∧ base ≤ g ∧ xs.length ≤ c ∧ ∀ (i : Nat) (hi : i < xs.length), w.cell? ⟨g, i, none⟩ = some (.string xs[i]) ∧ w.frozen? ⟨g, i, none⟩ = false := by
  rcases h.2 with ⟨_, h1⟩ | ⟨g, cap, cur, e, hg, hh, hn, hm, hcs, hcur⟩
  · omega
  · injection e with e1 e2 e3
    subst e1; subst e3
    refine ⟨g, rfl, hg, hn, fun i hi => ?_⟩
    have hR := Go.Proofs.YtckfkbmefdmedaaW.PrintWords.Kd.R_cell (enc := Value.string) (h1 := fun _ => rfl) (ok := fun _ => True) ByteArray.empty (Kd.R_of_own h (fun _ _ => trivial)) (i : Int) (by omega) (by omega)
    have hrd : rdOf ByteArray.empty xs (i : Int) = xs[i] := by simp [rdOf, hi]
    rw [hrd, Int.toNat_natCast] at hR
    exact hR
theorem C_strs {w : World} {A : Option Addr} {xs : List ByteArray} (h : Kd.C Kd.string w A xs.length xs) (hn : 0 < xs.length) :
    ∃ b off, A = some ⟨b, off, none⟩ ∧ ∀ (i : Nat) (hi : i < xs.length), w.cell? ⟨b, off + i, none⟩ = some (.string xs[i]) := by
  obtain ⟨ad, rfl, hc⟩ := (Kd.reads_of_C (d := ByteArray.empty) h).2.2 hn
  have hsp : ad.spot = none := by
    have h1 := Rk.spot_none (hc 0 hn)
    simpa [Addr.add] using h1
  refine ⟨ad.block, ad.off, by rw [← Kp.addr_eta hsp], fun i hi => ?_⟩
  have := hc i hi
  rw [Kp.addr_eta hsp, Kp.add_plain', List.getD_eq_getElem?_getD, List.getElem?_eq_getElem hi] at this
  simpa using this
set_option maxRecDepth 100000 in
set_option maxHeartbeats 4000000 in
theorem tears_any (number other which at_ : Int) (p old : ByteArray) (w : World) (hn : 0 ≤ number ∧ number ≤ 255) (ho : 0 ≤ other ∧ other ≤ 255) (hw : 0 ≤ which ∧ which ≤ 255) (ha : 0 ≤ at_ ∧ at_ ≤ 255) :
    Calls Try.prog 4 #[.agg #[.int .u8 number, .int .u8 other], .agg #[.string p, .string old], .agg #[.int .u8 which, .int .u8 at_]] w (TrueP w) := by
  go_enter Try.func4, Try.ntmps4
  go_wp2_with fail
  go_region
  all_goals
    go_wp2_with fail
    have hbq := (below_new (below_new (below_new (Below.refl w.heap.size w) (.cells #[.int .u8 number, .int .u8 other] 30)) (.cells #[.string p, .string old] 31)) (.cells #[.int .u8 which, .int .u8 at_] 30)).drew
    generalize (((w.alloc (Obj.cells #[Value.int IntKind.u8 number, Value.int IntKind.u8 other] 30)).alloc (Obj.cells #[Value.string p, Value.string old] 31)).alloc (Obj.cells #[Value.int IntKind.u8 which, Value.int IntKind.u8 at_] 30)).drew = wq at *
    have HBQ := hidI hbq
    clear hbq
    with_reducible refine (lives04_calls wq).mono ?_
    rintro e w1 ⟨rfl, hb1⟩
    simp only []
    have HB1 := hidI (below_step HBQ.out hb1)
    clear hb1 HBQ
    by_cases hbig : 2000 < p.size ∨ 4000 < old.size ∨ number = other
    · as_aux_lemma =>
        have hliv : ∀ wz, Below w.heap.size w wz → ∀ e w', (e = .returned (.bool true) ∧ Below wz.heap.size wz w') → TrueP w e w' := fun wz hz e w' h => ⟨h.1, below_step hz h.2⟩
        by_cases g1 : 2000 < p.size
        · as_aux_lemma =>
            have g1' : decide (2000 < (p.size : Int)) = true := decide_eq_true (by omega)
            clear g1 hbig
            go_wp2_with fail
            with_reducible refine (lives04_calls w1).mono ?_
            rintro e w2 ⟨rfl, hb2⟩
            have hfin : Hid (TrueP w (.returned (.bool true)) w2) := hidI ⟨rfl, below_step HB1.out hb2⟩
            clear hb2
            simp only []
            go_wp2_with fail
            go_ret
            exact hfin.out
        · have g1' : decide (2000 < (p.size : Int)) = false := decide_eq_false (by omega)
          by_cases g2 : 4000 < old.size
          · have g2' : decide (4000 < (old.size : Int)) = true := decide_eq_true (by omega)
            clear g1 g2 hbig
            go_wp2_with fail
            with_reducible refine (lives04_calls w1).mono ?_
            rintro e w2 ⟨rfl, hb2⟩
            have hfin : Hid (TrueP w (.returned (.bool true)) w2) := hidI ⟨rfl, below_step HB1.out hb2⟩
            clear hb2
            simp only []
            go_wp2_with fail
            go_ret
            exact hfin.out
          · have g2' : decide (4000 < (old.size : Int)) = false := decide_eq_false (by omega)
            have g3' : (number == other) = true := by rw [beq_iff_eq]; omega
            clear g1 g2 hbig
            go_wp2_with fail
            with_reducible refine (lives04_calls w1).mono ?_
            rintro e w2 ⟨rfl, hb2⟩
            have hfin : Hid (TrueP w (.returned (.bool true)) w2) := hidI ⟨rfl, below_step HB1.out hb2⟩
            clear hb2
            simp only []
            go_wp2_with fail
            go_ret
            exact hfin.out
    · have g1' : decide (2000 < (p.size : Int)) = false := decide_eq_false (by omega)
      have g2' : decide (4000 < (old.size : Int)) = false := decide_eq_false (by omega)
      have g3' : (number == other) = false := by rw [beq_eq_false_iff_ne]; omega
      have hps : p.size ≤ 2000 := by omega
      have hos : old.size ≤ 4000 := by omega
      have hne : ¬ number = other := by omega
      clear hbig
      go_wp2_with fail
      rcases hpk : packF number (bl p) with ⟨l, r⟩
      with_reducible refine (pack_calls number p l r w1 (by omega) hpk).mono ?_
      rintro e w2 ⟨A2, c2, rfl, hc2, hC2, hb2⟩
      simp only []
      have HB2 := hidI (below_step HB1.out hb2)
      have HC2 := hidI hC2
      have HPK := hidI hpk
      clear hb2 hC2 hpk
      go_wp2_with fail
      rcases hpo : packF other (bl old) with ⟨u, f⟩
      obtain ⟨K, hK⟩ := EvT.one (pack_ok other old (by omega))
      with_reducible refine (block_Pack.calls K other old u f w2 (by rw [hK, hpo])).mono ?_
      rintro e w3 ⟨v3, rfl, hR3, hb3⟩
      have HO3 : Hid (OwnS w3 w2.heap.size v3 u) := hidI (Go.Proofs.YtckfkbmefdmedaaW.PrintWords.Kd.own_of_R hR3)
      obtain ⟨A3, c3, rfl⟩ := Go.Proofs.YtckfkbmefdmedaaW.PrintWords.Kd.R_slice hR3
      simp only []
      have HB3 := hidI hb3
      have HPO := hidI hpo
      clear hb3 hR3 hpo hK
      by_cases hz : p.size = 0
      · obtain ⟨rfl, rfl⟩ : l = [] ∧ r = 1 := by
          have := HPK.out
          unfold packF at this
          rw [if_pos (by left; rw [← ba_size, hz]; decide)] at this
          exact ⟨(congrArg Prod.fst this).symm, (congrArg Prod.snd this).symm⟩
        have hfin : Hid (TrueP w (.returned (.bool true)) w3) := hidI ⟨rfl, below_step HB2.out HB3.out⟩
        have hpe : p.toList.isEmpty = true := by
          rw [ByteArray.toList_eq, List.isEmpty_iff, ← List.length_eq_zero_iff, Array.length_toList]; exact hz
        clear hz
        go_wp2_with fail
        go_ret
        exact hfin.out
      · obtain ⟨n, hnn⟩ : ∃ n, n = cntL (bl p).length := ⟨_, rfl⟩
        have hnn2 : n = (p.size + 48) / 49 := by rw [hnn, ba_size]; rfl
        obtain ⟨hl, rfl⟩ : l = blkR number (bl p) n 0 n ∧ r = 0 := by
          have := HPK.out
          unfold packF at this
          rw [← hnn, if_neg (by omega)] at this
          exact ⟨(congrArg Prod.fst this).symm, (congrArg Prod.snd this).symm⟩
        have hln : l.length = n := by rw [hl, blkR_len]
        have HL := hidI hl
        have HNN := hidI hnn
        have hl0 : 0 < l.length := by omega
        have hl9 : l.length ≤ 41 := by omega
        have HLN := hidI hln
        have hl1 : ((l.length : Int) == 0) = false := beq_eq_false_iff_ne.mpr (by omega)
        clear hl hnn hnn2 hz hln
        have hu : Hid ((∀ x ∈ u, Far number x) ∧ u.length ≤ 100) := by
          refine hidI ?_
          have := HPO.out
          unfold packF at this
          split at this
          · injection this with e1 e2; rw [← e1]; exact ⟨fun x hx => by simp at hx, by simp⟩
          · injection this with e1 e2; rw [← e1]
            exact ⟨far_blk number other (by omega) (by omega) (by omega) (by omega) hne _ _ _ _, by show (blkR _ _ _ _ _).length ≤ _; rw [blkR_len]; have := ba_size old; unfold cntL; omega⟩
        have hf : f = 0 ∨ (f = 1 ∧ u = []) := by
          have := HPO.out
          unfold packF at this
          split at this
          · exact .inr ⟨(congrArg Prod.snd this).symm, (congrArg Prod.fst this).symm⟩
          · exact .inl (congrArg Prod.snd this).symm
        have HOn : Hid (OwnS w3 w2.heap.size (.slice none 0 0) []) := hidI ⟨rfl, .inl ⟨rfl, rfl⟩⟩
        rcases hf with rfl | ⟨rfl, -⟩
        all_goals
          as_aux_lemma =>
            go_wp2_with fail
            go_loopw [15] (fun v wr => ∃ (xs : List ByteArray) (A : Option Addr) (c : Nat), v = .slice A xs.length c ∧ xs.length ≤ 100 ∧ Hid (OwnS wr w2.heap.size (.slice A xs.length c) xs ∧ Below w2.heap.size w2 wr ∧ ∀ x ∈ xs, Far number x)) (fun v _ => l.length - slN v)
            case atStart =>
              first
                | exact ⟨_, _, _, rfl, hu.out.2, hidI ⟨HO3.out, HB3.out, hu.out.1⟩⟩
                | exact ⟨[], none, 0, rfl, by simp, hidI ⟨HOn.out, HB3.out, fun x hx => by simp at hx⟩⟩
            case round =>
              obtain ⟨xs, A, c, rfl, hxl, hI⟩ := hrel
              by_cases hlt : xs.length < l.length
              · as_aux_lemma =>
                  have hlt' : decide ((xs.length : Int) < (l.length : Int)) = true := decide_eq_true (by omega)
                  go_wp2_with fail
                  with_reducible refine (strings_Repeat.calls ⟨#[0]⟩ 64 z64 wr rep64).mono ?_
                  rintro e w4 ⟨rfl, hb4⟩
                  simp only []
                  have HO4 := hI.out.1.below hb4
                  have HB4 := hidI (hI.out.2.1.trans (hb4.mono hI.out.2.1.size))
                  have hbs4 : Hid (w2.heap.size ≤ w4.heap.size) := hidI HB4.out.size
                  clear hb4
                  obtain ⟨i0, hi0, hz0, hz1, hz2⟩ := info_parts info9s
                  go_wp2_with (at_builtin; refine wpList_append_any _ rfl (.tmp 78) (.tmp 80) 22 rfl w2.heap.size 9 i0 (.string ⟨#[]⟩) 1 16 Try.underlying22 hi0 hz0 hz1 hz2 rfl (by decide) (.slice A xs.length c) xs.length (encs Value.string xs) rfl ?aO (w4.heap.size + 1) (some ⟨w4.heap.size, 0, none⟩) 1 1 [.string z64] rfl ?aR ?a1 ?aM ?aB ?aS ?_; (case aO => exact HO4.below (below_new (Below.refl _ _) _)); (case aR => exact ⟨rfl, fun _ => ⟨_, rfl, Nat.lt_succ_self _, fun j q hj => by (match j, hj with | 0, hj => (cases hj; exact one_cell w4 _ 9) | j + 1, hj => simp at hj)⟩⟩); (case a1 => intro q hq; rcases List.mem_singleton.1 hq with rfl; rfl); (case aM => simp only [maxLen]; omega); (case aB => omega); (case aS => have := hbs4.out; simp; omega); intro v5 w5 hown hg hat; obtain ⟨A5, c5, rfl, hc5, _⟩ := (OwnS.snoc hown).reads)
                  have hO5 := OwnS.snoc hown
                  have hb5 := Below.grown (HB4.out.trans ((below_new (Below.refl w4.heap.size w4) (.cells #[.string z64] 9)).mono hbs4.out)) hg (by have := hbs4.out; simp; omega) (fun q hq => own_base HO4 hq)
                  have HN5 := hidI (And.intro hO5 hb5)
                  clear hown hg hat hO5 hb5 HO4
                  go_roundw
                  · exact ⟨xs ++ [z64], A5, c5, by simp, by simp; omega, hidI ⟨HN5.out.1, HN5.out.2, fun q hq => by
                      rcases List.mem_append.1 hq with h | h
                      · exact hI.out.2.2 q h
                      · rcases List.mem_singleton.1 h with rfl; exact far_zero number (by omega) (by omega)⟩⟩
                  · simp [slN]; omega
              · as_aux_lemma =>
                  have hlt' : decide ((xs.length : Int) < (l.length : Int)) = false := decide_eq_false (by omega)
                  obtain ⟨k, hk⟩ : ∃ k : Nat, which % (l.length : Int) = (k : Int) := ⟨(which % (l.length : Int)).toNat, by rw [Int.toNat_of_nonneg (Int.emod_nonneg _ (by omega))]⟩
                  have hkl : k < l.length := by have := Int.emod_lt_of_pos which (show (0 : Int) < (l.length : Int) by omega); omega
                  obtain ⟨cut, hcut⟩ : ∃ cut : Nat, at_ % 65 = (cut : Int) := ⟨(at_ % 65).toNat, by omega⟩
                  have hcl : cut ≤ 64 := by omega
                  have hxl0 : 0 < xs.length := by omega
                  obtain ⟨gu, rfl, hgu, hcu, hcellu⟩ := hI.out.1.open_ hxl0
                  have hu1 : wr.cell? ⟨gu, k, none⟩ = some (.string (xs[k]'(by omega))) := (hcellu k (by omega)).1
                  have hfu := hI.out.2.2 (xs[k]'(by omega)) (List.getElem_mem _)
                  obtain ⟨y, hy⟩ : ∃ y, y = xs[k]'(by omega) := ⟨_, rfl⟩
                  rw [← hy] at hu1 hfu
                  have hC9 := Kd.C_below HC2.out hI.out.2.1
                  have hClone := slices_Clone_string_string.calls A2 c2 l l wr hC9 hc2 (by unfold slices_Clone_string_string.f; rw [if_pos ⟨hl0, by omega⟩])
                  have HBr := hidI (below_step HB2.out hI.out.2.1)
                  have HCr := hidI hC9
                  have HFU := hidI hfu
                  have HY := hidI hy
                  have hkx : k < xs.length := by omega
                  clear hy hfu hcellu
                  go_wp2_with fail
                  with_reducible refine hClone.mono ?_
                  rintro e w5 ⟨v5, rfl, hR5, hb5⟩
                  simp only []
                  have hO5 : OwnS w5 wr.heap.size v5 l := Go.Proofs.YtckfkbmefdmedaaW.PrintWords.Kd.own_of_R hR5
                  obtain ⟨A5, c5, rfl, hc5, _⟩ := hO5.reads
                  obtain ⟨gt, rfl, hgt, _, hcellt⟩ := hO5.open_ hl0
                  obtain ⟨b2, off2, rfl, hcelll⟩ := C_strs (Kd.C_below hC9 hb5) hl0
                  have ql := hcelll k hkl
                  have qt := (hcellt k hkl).1
                  have qf := (hcellt k hkl).2
                  have qu := pw_cell_below hb5 hu1
                  obtain ⟨x, hx⟩ : ∃ x, x = l[k] := ⟨_, rfl⟩
                  rw [← hx] at ql qt
                  have HX := hidI hx
                  have hxs : x.size = 64 := by
                    have e : x = oneF number k n (chunk (bl p) k) := by
                      rw [hx]
                      have h3 := blkR_get number (bl p) n n 0 k (by have := HLN.out; omega)
                      rw [Nat.zero_add] at h3
                      rw [← h3]
                      have := HL.out
                      subst this
                      rfl
                    rw [e]; exact one_size _ _ _ _ (chunk_le _ _)
                  have hys : y.size = 64 := HFU.out.1
                  have HB5 := hidI hb5
                  have HO5 := hidI hO5
                  have HC9 := hidI (Kd.C_below hC9 hb5)
                  clear hx hcelll hcellt hR5 hb5 hO5 hC9 hClone hu1
                  have hk' : decide ((k : Int) < (l.length : Int)) = true := decide_eq_true (by omega)
                  have hk'' : decide ((k : Int) < (xs.length : Int)) = true := decide_eq_true (by omega)
                  rw [hk, hcut]
                  go_wp2_with fail
                  go_region
                  obtain ⟨z, hz⟩ : ∃ z, z = x.extract 0 cut ++ y.extract cut 64 := ⟨_, rfl⟩
                  rw [← hz]
                  obtain ⟨w6, hw6⟩ : ∃ w6, w6 = (w5.setCell ⟨gt, k, none⟩ (.string z)).drew := ⟨_, rfl⟩
                  rw [← hw6]
                  have hzt : z = tearZ x y cut := by rw [hz]; unfold tearZ; rw [hys]
                  have hb6 : Below wr.heap.size wr w6 := by rw [hw6]; exact (HB5.out.setCell (p := ⟨gt, k, none⟩) hgt _).drew
                  have hO6 : OwnS w6 wr.heap.size (.slice (some ⟨gt, 0, none⟩) l.length c5) (l.set k z) := by
                    have h1 := (Go.Proofs.YtckfkbmefdmedaaW.PrintWords.Kd.R_put (enc := Value.string) (h1 := fun _ => rfl) (ok := fun _ => True) (Kd.R_of_own HO5.out (fun _ _ => trivial)) (k : Int) z).1
                    have h2 := Go.Proofs.YtckfkbmefdmedaaW.PrintWords.Kd.own_of_R h1
                    rw [Int.toNat_natCast] at h2
                    rw [hw6]
                    unfold OwnS
                    rw [List.length_set] at h2 ⊢
                    exact h2
                  have hset : (l.set k z).length = l.length := List.length_set
                  rw [← hset] at hO6
                  have hqz : w6.cell? ⟨gt, k, none⟩ = some (.string z) := by
                    obtain ⟨g, e, _, _, hc⟩ := hO6.open_ (by omega)
                    cases e
                    have := (hc k (by omega)).1
                    rwa [List.getElem_set_self] at this
                  obtain ⟨A6, c6, e6, hc6, hC6⟩ := hO6.reads
                  cases e6
                  rw [hset] at hO6
                  have hqx : w6.cell? ⟨b2, off2 + k, none⟩ = some (.string x) := by
                    obtain ⟨b3, off3, e, hc⟩ := C_strs (Kd.C_below HCr.out hb6) hl0
                    cases e
                    rw [HX.out]; exact hc k hkl
                  have hbl : bl p = bl p := rfl
                  have hn255 : n ≤ 255 := by have := HLN.out; omega
                  have hkn : k < n := by have := HLN.out; omega
                  have hxo : x = oneF number k n (chunk (bl p) k) := by
                    rw [HX.out]
                    have h3 := blkR_get number (bl p) n n 0 k hkn
                    rw [Nat.zero_add] at h3
                    rw [← h3]
                    have := HL.out
                    subst this
                    rfl
                  have hHB6 := hidI (below_step HBr.out hb6)
                  by_cases hzx : z = x
                  · as_aux_lemma =>
                      have hU : unpackF number (l.set k z) = (p, (l.length : Int), 0) := by
                        have e1 : l.set k z = l := by rw [hzx, HX.out]; exact List.set_getElem_self hkl
                        have hR := packs_rec number p n HNN.out.symm (by omega) hn255 []
                        rw [List.append_nil, ← HL.out] at hR
                        rw [e1, unpack_at (by omega) (by omega) hl0, unp_ok hR, HLN.out]
                      have hu7 := unpack_calls number (some ⟨gt, 0, none⟩) c5 (l.set k z) p (l.length : Int) 0 w6 hC6 hc6 (by omega) hU
                      rw [hset] at hu7
                      have heq : (z.toList == x.toList) = true := by rw [hzx]; simp
                      clear hzx hU hz hw6 hxo hzt hb6 hO6 hset hC6 hbl hc6 ql qt qf qu
                      go_wp2_with fail
                      with_reducible refine hu7.mono ?_
                      rintro e w7 ⟨rfl, hb7⟩
                      have hfin : Hid (TrueP w (.returned (.bool true)) w7) := hidI ⟨rfl, below_step hHB6.out hb7⟩
                      have q1 := pw_cell_below hb7 hqz
                      have q2 := pw_cell_below hb7 hqx
                      clear hb7 hu7 hqz hqx
                      simp only []
                      go_wp2_with fail
                      go_region
                      all_goals
                        go_wp2_with fail
                        go_ret
                        first | exact hfin.out | exact ⟨hfin.out.1, hfin.out.2.drew⟩
                  · as_aux_lemma =>
                      have hU : unpackF number (l.set k z) = (⟨#[]⟩, 0, 5) := by
                        rw [unpack_at (by omega) (by omega) (by omega)]
                        refine unp_none _ _ ?_
                        have := tear_none number p n k cut HNN.out.symm hn255 hkn hcl y HFU.out (by rw [← hxo, ← hzt]; exact hzx)
                        rw [← hxo, ← hzt, ← HL.out] at this
                        exact this
                      have hu7 := unpack_calls number (some ⟨gt, 0, none⟩) c5 (l.set k z) ⟨#[]⟩ 0 5 w6 hC6 hc6 (by omega) hU
                      rw [hset] at hu7
                      have heq : (z.toList == x.toList) = false := by
                        rw [beq_eq_false_iff_ne]; exact fun e => hzx (ba_tl.1 e)
                      clear hzx hU hz hw6 hxo hzt hb6 hO6 hset hC6 hbl hc6 ql qt qf qu
                      go_wp2_with fail
                      with_reducible refine hu7.mono ?_
                      rintro e w7 ⟨rfl, hb7⟩
                      have hfin : Hid (TrueP w (.returned (.bool true)) w7) := hidI ⟨rfl, below_step hHB6.out hb7⟩
                      have q1 := pw_cell_below hb7 hqz
                      have q2 := pw_cell_below hb7 hqx
                      clear hb7 hu7 hqz hqx
                      simp only []
                      go_wp2_with fail
                      go_region
                      all_goals
                        go_wp2_with fail
                        go_ret
                        first | exact hfin.out | exact ⟨hfin.out.1, hfin.out.2.drew⟩
end Go.Proofs.Ytckfkbmefdmedaa
namespace Go.Proofs.Ytckfkbmefdmedaa
open Go.RowKit Go.Proofs.Rk
set_option linter.unusedVariables false
theorem walk4 (a : A30) (b : A31) (c : A30) (w : World) (ha : k30.ok a) (hb : k31.ok b) (hc : k30.ok c) :
    Calls Try.prog 4 #[.agg (A30.l a).toArray, .agg (A31.l b).toArray, .agg (A30.l c).toArray] w fun e w' => e = .returned (.bool true) ∧ Below w.heap.size w w' := by
  have B : ∀ {x : Int}, (Lit.int .u8 x).wf = true → 0 ≤ x ∧ x ≤ 255 := fun h => bounds_u8 h
  exact tears_any a.f0 a.f1 c.f0 c.f1 b.f0 b.f1 w (B ha.1) (B ha.2) (B hc.1) (B hc.2)
end Go.Proofs.Ytckfkbmefdmedaa
