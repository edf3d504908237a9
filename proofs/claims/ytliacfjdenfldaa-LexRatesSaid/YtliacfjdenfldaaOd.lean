import Derived.Test.YtliacfjdenfldaaOc
import Derived.Laws.BytesArg
namespace Go.Proofs.Ytliacfjdenfldaa
open Go.RowKit Go.Proofs.Kq
open Go.Proofs.YtliacfjdenfldaaW.PrintWords (pw_cell_below step_append_cells print_append_cells Kd Kd.C Kd.C_below)
open Go.Proofs.YtliacfjdenfldaaW.PrintLast
set_option linter.unusedSimpArgs false
set_option linter.unusedVariables false

theorem sn_size (xs : List Int) : (strOfNums xs).size = xs.length := by
  show (List.toArray _).size = _
  simp
theorem sn_app (xs ys : List Int) : strOfNums (xs ++ ys) = strOfNums xs ++ strOfNums ys := by
  apply ByteArray.ext
  simp [strOfNums]
theorem sn_bn (s : ByteArray) : strOfNums (bn s) = s := by
  apply ByteArray.ext
  apply Array.ext'
  simp only [strOfNums, bn, List.map_map]
  have : (fun n : Int => UInt8.ofNat n.toNat) ∘ (fun b : UInt8 => (b.toNat : Int)) = id := by
    funext b; simp
  rw [this]; simp
theorem bn_sn {xs : List Int} (h : ∀ z ∈ xs, 0 ≤ z ∧ z < 256) : bn (strOfNums xs) = xs := by
  simp only [bn, strOfNums, List.map_map]
  refine (List.map_congr_left (g := id) ?_).trans (List.map_id _)
  intro z hz
  have := h z hz
  simp only [Function.comp, id, UInt8.toNat_ofNat']
  omega
theorem sn_take (xs : List Int) (n : Nat) : (strOfNums xs).extract 0 n = strOfNums (xs.take n) := by
  apply ByteArray.ext
  apply Array.ext'
  simp [strOfNums, List.map_take]
theorem sn_drop (xs : List Int) (n : Nat) : (strOfNums xs).extract n (strOfNums xs).size = strOfNums (xs.drop n) := by
  apply ByteArray.ext
  apply Array.ext'
  rw [sn_size]
  simp only [strOfNums, ByteArray.data_extract, Array.toList_extract, List.extract, List.map_drop]
  rw [List.take_of_length_le (by simp)]
theorem sn_nil : strOfNums [] = ⟨#[]⟩ := rfl
theorem toC8 {w : World} {A : Option Addr} {n : Nat} {xs : List Int} (h : Kd.C (Kp.plain 1 l8o (fun _ => rfl) l8o_one) w A n xs) : (Go.Proofs.YtliacfjdenfldaaW.PrintWords.Kd.int .u8).C w A n xs := h
theorem own8o {w : World} {base : Nat} {v : Value} {xs : List Int} (h : Own l8o 1 5 w base v xs) : ∃ A c, v = .slice A xs.length c ∧ xs.length ≤ c ∧ Kd.C (Kp.plain 1 l8o (fun _ => rfl) l8o_one) w A xs.length xs :=
  Own.reads (hl := fun x => (rfl : (l8o x).length = 1)) (h1 := l8o_one) h
def BytesP (bs : List Int) (bad : Bool) (w : World) (e : Ending) (w' : World) : Prop := e = .returned (.tuple #[.string (if bad = true then ⟨#[]⟩ else strOfNums bs), .int .i64 (if bad = true then 1 else 0)]) ∧ w = w'
set_option maxHeartbeats 2000000 in
theorem wbytes_any (base g : Nat) (v : Value) (bs : List Int) (bad : Bool) (w : World) (h : Wt w base g v bs bad) :
    Calls Try.prog 40 #[.pointer (some ⟨g, 0, none⟩)] w (BytesP bs bad w) := by
  obtain ⟨A0, c0, rfl, _, hC⟩ := own8o h.own
  have hcv := Go.Proofs.YtliacfjdenfldaaW.PrintWords.Kd.C_string (P := Try.prog) (src := 64) (dst := 9) (c := c0) Try.underlying64 Try.underlying5 Try.underlying9 (toC8 hC)
  have c0' := h.blk.c; have l0 := h.blk.lt
  clear h hC
  cases bad
  · have hend : Hid (BytesP bs false w (.returned (.tuple #[.string (strOfNums bs), .int .i64 0])) w) := ⟨rfl, rfl⟩
    go_enter Try.func40, Try.ntmps40
    go_wp2
    go_ret2
    exact hend.out
  · have hend : Hid (BytesP bs true w (.returned (.tuple #[.string ⟨#[]⟩, .int .i64 1])) w) := ⟨rfl, rfl⟩
    go_enter Try.func40, Try.ntmps40
    go_wp2
    go_ret2
    exact hend.out
def RLowP (k : Nat) (n : Int) (w : World) (e : Ending) (w' : World) : Prop := e = .returned (.string (strOfNums (lowI k n))) ∧ Below w.heap.size w w'
set_option maxHeartbeats 2000000 in
theorem rlow_any (n0 : Int) (k0 : Nat) (w : World) (h0 : 0 ≤ n0) (h1 : n0 ≤ 18446744073709551615) (hk0 : k0 ≤ 8) :
    Calls Try.prog 83 #[.int .u64 n0, .int .i64 k0] w (RLowP k0 n0 w) := by
  go_enter Try.func83, Try.ntmps83
  go_wp2
  go_loopw [0, 5, 6] (fun n o i wr => ∃ k : Nat, k ≤ k0 ∧ i = .int .i64 k ∧ ∃ m : Int, n = .int .u64 m ∧ 0 ≤ m ∧ m ≤ 18446744073709551615 ∧ ∃ t : ByteArray, o = .string t ∧ t.size ≤ 8 ∧ Hid (m = n0 / 256 ^ k ∧ t = strOfNums (lowI k n0) ∧ Below w.heap.size w wr)) (fun _ _ i _ => k0 - (intOf i).toNat)
  case atStart => exact ⟨0, Nat.zero_le _, rfl, n0, rfl, h0, h1, ⟨#[]⟩, rfl, Nat.zero_le _, hidI ⟨by simp, rfl, Below.refl _ _⟩⟩
  case round =>
    obtain ⟨k, hk, rfl, m, rfl, hm0, hm1, t, rfl, hts, hI⟩ := hrel
    by_cases hlt : k < k0
    · obtain ⟨he, ht, hb⟩ := hI.out
      have hb2 := below_new hb (.cells #[.int .u8 (m % 256)] 5)
      have hcv : ∀ (w : World) (z : Int), (convert 64 9 (.slice (some ⟨w.heap.size, 0, none⟩) 1 1)).run Try.prog (w.alloc (.cells #[.int .u8 z] 5)) = .ok (.string (strOfNums [z])) (w.alloc (.cells #[.int .u8 z] 5)) := by
        intro w z
        refine Go.Proofs.YtliacfjdenfldaaW.PrintWords.Kd.C_string (P := Try.prog) (src := 64) (dst := 9) (c := 1) Try.underlying64 Try.underlying5 Try.underlying9 (toC8 (A := some ⟨w.heap.size, 0, none⟩) (n := 1) (xs := [z]) ?_)
        obtain ⟨A', c', hv, _, hC⟩ := own8o (Own.lit (l := l8o) (sz := 1) (e := 5) (w := w.alloc (.cells #[.int .u8 z] 5)) (base := 0) (xs := [z]) (b := w.heap.size) (Blk.new' rfl) rfl rfl (Nat.zero_le _) (by simp))
        cases hv; exact hC
      have h1s : (strOfNums [m % 256]).size = 1 := sn_size _
      have hts2 : t.size = k := by rw [ht, sn_size, lowI_len]
      have hst : Hid (m / 256 = n0 / 256 ^ (k + 1) ∧ t ++ strOfNums [m % 256] = strOfNums (lowI (k + 1) n0) ∧ Below w.heap.size w (wr.alloc (.cells #[.int .u8 (m % 256)] 5))) := by
        refine ⟨?_, ?_, hb2⟩
        · rw [he, Int.ediv_ediv_of_nonneg (Int.pow_nonneg (by decide)), Int.pow_succ]
        · rw [lowI_snoc, sn_app, ← ht, he]
      have hs3 : (t ++ strOfNums [m % 256]).size ≤ 8 := by rw [ByteArray.size_append]; omega
      clear he ht hb hb2 hts2
      go_wp2
      go_roundw
      case rel => exact ⟨k + 1, by omega, by go_num, _, rfl, by omega, by omega, _, rfl, hs3, hst⟩
      case measure => simp [intOf]; omega
    · have e : k = k0 := by omega
      have hfin : Hid (RLowP k0 n0 w (.returned (.string t)) wr) := by
        obtain ⟨_, ht, hb⟩ := hI.out
        show RLowP _ _ _ _ _
        rw [ht, e]; exact ⟨rfl, hb⟩
      clear e hI
      go_wp2
      go_ret
      exact hfin.out
theorem rlow2_any (n0 : Int) (w : World) (h0 : 0 ≤ n0) (h1 : n0 ≤ 18446744073709551615) : Calls Try.prog 83 #[.int .u64 n0, .int .i64 2] w (RLowP 2 n0 w) := rlow_any n0 2 w h0 h1 (by decide)
def encX (x : A68) : List Int := if x.f0 = true then lowI 2 (x.f2.size : Int) ++ bn x.f2 else lowI 8 (IntKind.u64.wrap x.f1)
def encL (xs : List A68) : List Int := xs.flatMap encX
def longX (x : A68) : Bool := x.f0 && decide (65535 < x.f2.size)
def longL (xs : List A68) : Bool := xs.any longX
def wX (x : A68) : Nat := 1 + x.f2.size
def smN (xs : List A68) : Nat := (xs.map wX).sum
theorem smN_snoc (xs : List A68) (x : A68) : smN (xs ++ [x]) = smN xs + wX x := by simp [smN]
theorem encL_snoc (xs : List A68) (x : A68) : encL (xs ++ [x]) = encL xs ++ encX x := by simp [encL]
theorem longL_snoc (xs : List A68) (x : A68) : longL (xs ++ [x]) = (longL xs || longX x) := by simp [longL]
theorem encX_len (x : A68) : (encX x).length ≤ wX x + 8 := by
  unfold encX wX; split
  · rw [List.length_append, lowI_len, bn_len]; omega
  · rw [lowI_len]; omega
theorem encL_len : ∀ xs : List A68, (encL xs).length ≤ smN xs + 8 * xs.length
  | [] => by simp [encL]
  | x :: xs => by
    have h1 := encX_len x
    have h2 := encL_len xs
    simp only [encL, smN, List.flatMap_cons, List.length_append, List.map_cons, List.sum_cons, List.length_cons] at *
    omega
theorem smN_take (xs : List A68) (k : Nat) : smN (xs.take k) ≤ smN xs := by
  have h : smN xs = smN (xs.take k) + smN (xs.drop k) := by
    unfold smN; rw [← List.sum_append, ← List.map_append, List.take_append_drop]
  omega
def smallBB (xs : List A68) : Bool := decide (smN xs ≤ 200000) && decide (xs.length ≤ 200)
set_option maxHeartbeats 2000000 in
theorem osmall_any (A : Option Addr) (c : Nat) (xs : List A68) (w : World) (hC : Kd.C d68 w A xs.length xs) (hl : xs.length ≤ 200) (hs : ∀ x ∈ xs, x.f2.size ≤ 140737488351232) :
    Calls Try.prog 37 #[.slice A xs.length c] w fun e w' => e = .returned (.bool (smallBB xs)) ∧ Below w.heap.size w w' := by
  by_cases h0 : xs = []
  · subst h0
    clear hC
    go_enter Try.func37, Try.ntmps37
    go_wp2
    refine wp_loop_rounds 1 ?_
    rw [rounds_succ]
    go_wp2
    go_ret
    exact ⟨rfl, Below.refl _ _⟩
  obtain ⟨b, off, rfl, hx⟩ := Kp.C_open hC (List.length_pos_iff.2 h0) (by decide)
  have HX := hidI hx
  have HS := hidI hs
  clear hx hC h0 hs
  go_enter Try.func37, Try.ntmps37
  go_wp2
  go_loopw [3, 8] (fun n i wr => ∃ k : Nat, k ≤ xs.length ∧ i = .int .i64 k ∧ ∃ m : Nat, n = .int .i64 m ∧ m ≤ k * 140737488351233 ∧ Hid (m = smN (xs.take k)) ∧ Below w.heap.size w wr) (fun _ i _ => xs.length - (intOf i).toNat)
  case atStart => exact ⟨0, Nat.zero_le _, rfl, 0, rfl, by omega, hidI rfl, Below.refl _ _⟩
  case round =>
    obtain ⟨k, hk, rfl, m, rfl, hm, hst, hb⟩ := hrel
    by_cases hlt : k < xs.length
    · obtain ⟨x, hxe⟩ : ∃ x, x = xs[k] := ⟨_, rfl⟩
      have q0 : wr.cell? ⟨b, off + k * 3, none⟩ = some (.bool x.f0) := by rw [hxe]; exact pw_cell_below hb (HX.out k hlt 0 _ rfl)
      have q1 : wr.cell? ⟨b, off + k * 3 + 1, none⟩ = some (.int .i64 x.f1) := by rw [hxe]; exact pw_cell_below hb (HX.out k hlt 1 _ rfl)
      have q2 : wr.cell? ⟨b, off + k * 3 + 2, none⟩ = some (.string x.f2) := by rw [hxe]; exact pw_cell_below hb (HX.out k hlt 2 _ rfl)
      have hxs : x.f2.size ≤ 140737488351232 := by rw [hxe]; exact HS.out _ (List.getElem_mem _)
      have hst2 : Hid (m + (1 + x.f2.size) = smN (xs.take (k + 1))) := by show _ = _; rw [List.take_succ_eq_append_getElem hlt, ← hxe, smN_snoc, ← hst.out]; rfl
      have hb2 := below_new hb (.cells #[.bool x.f0, .int .i64 x.f1, .string x.f2] 68)
      clear hxe hst hb
      go_wp2
      go_roundw
      case rel => exact ⟨k + 1, by omega, by go_num, _, by go_num, by omega, hst2, hb2⟩
      case measure => simp [intOf]; omega
    · have e : k = xs.length := by omega
      have hm2 : m = smN xs := by rw [hst.out, e, List.take_length]
      have hr : Hid (smallBB xs = decide (m ≤ 200000)) := by show _ = _; unfold smallBB; rw [← hm2]; simp [hl]
      clear e hst hm2
      by_cases hle : m ≤ 200000
      · have hr2 : Hid (smallBB xs = true) := by show _ = _; rw [hr.out]; simp [hle]
        have t3 : decide ((xs.length : Int) ≤ 200) = true := by simp; omega
        go_wp2
        go_ret
        exact ⟨by rw [hr2.out]; rfl, hb⟩
      · have hr2 : Hid (smallBB xs = false) := by show _ = _; rw [hr.out]; simp [hle]
        go_wp2
        go_ret
        exact ⟨by rw [hr2.out]; rfl, hb⟩
def PutP (xs : List A68) (w : World) (e : Ending) (w' : World) : Prop := e = .returned (.tuple #[.string (if longL xs = true then ⟨#[]⟩ else strOfNums (encL xs)), .bool (!longL xs)]) ∧ Below w.heap.size w w'
set_option maxRecDepth 100000 in
set_option maxHeartbeats 4000000 in
theorem put_any (A : Option Addr) (c : Nat) (xs : List A68) (w : World) (hC : Kd.C d68 w A xs.length xs) (hl : xs.length ≤ 200) (hs : smN xs ≤ 200000) :
    Calls Try.prog 41 #[.slice A xs.length c] w (PutP xs w) := by
  by_cases h0 : xs = []
  · subst h0
    clear hC
    have hfin : Hid (PutP [] w (.returned (.tuple #[.string ⟨#[]⟩, .bool true])) w) := ⟨rfl, Below.refl _ _⟩
    go_enter Try.func41, Try.ntmps41
    go_wp2
    refine wp_loop_rounds 1 ?_
    rw [rounds_succ]
    go_wp2
    go_ret2
    exact hfin.out
  obtain ⟨b, off, rfl, hx⟩ := Kp.C_open hC (List.length_pos_iff.2 h0) (by decide)
  have HX := hidI hx
  clear hx hC h0
  go_enter Try.func41, Try.ntmps41
  go_wp2
  go_loopw [4, 5] (fun o i wr => ∃ k : Nat, k ≤ xs.length ∧ i = .int .i64 k ∧ ∃ t : ByteArray, o = .string t ∧ t.size ≤ 1000000 ∧ Hid (longL (xs.take k) = false ∧ t = strOfNums (encL (xs.take k)) ∧ Below w.heap.size w wr)) (fun _ i _ => xs.length - (intOf i).toNat)
  case atStart => exact ⟨0, Nat.zero_le _, rfl, ⟨#[]⟩, rfl, Nat.zero_le _, hidI ⟨rfl, rfl, Below.refl _ _⟩⟩
  case round =>
    obtain ⟨k, hk, rfl, t, rfl, hts, hI⟩ := hrel
    by_cases hlt : k < xs.length
    · obtain ⟨hlo, ht, hb⟩ := hI.out
      obtain ⟨x, hxe⟩ : ∃ x, x = xs[k] := ⟨_, rfl⟩
      have q0 : wr.cell? ⟨b, off + k * 3, none⟩ = some (.bool x.f0) := by rw [hxe]; exact pw_cell_below hb (HX.out k hlt 0 _ rfl)
      have q1 : wr.cell? ⟨b, off + k * 3 + 1, none⟩ = some (.int .i64 x.f1) := by rw [hxe]; exact pw_cell_below hb (HX.out k hlt 1 _ rfl)
      have q2 : wr.cell? ⟨b, off + k * 3 + 2, none⟩ = some (.string x.f2) := by rw [hxe]; exact pw_cell_below hb (HX.out k hlt 2 _ rfl)
      have htk : xs.take (k + 1) = xs.take k ++ [x] := by rw [hxe]; exact List.take_succ_eq_append_getElem hlt
      have hsm : smN (xs.take (k + 1)) ≤ 200000 := Nat.le_trans (smN_take xs _) hs
      have hel := encL_len (xs.take (k + 1))
      have hsz : (strOfNums (encL (xs.take (k + 1)))).size ≤ 1000000 := by rw [sn_size]; have : (xs.take (k + 1)).length ≤ 200 := by rw [List.length_take]; omega
                                                                           omega
      have hen : encL (xs.take (k + 1)) = encL (xs.take k) ++ encX x := by rw [htk, encL_snoc]
      have hx2 : x.f2.size ≤ 200000 := by
        have h1 : smN (xs.take k ++ [x]) ≤ 200000 := by rw [← htk]; exact hsm
        rw [smN_snoc] at h1; unfold wX at h1; omega
      have hlx : longL (xs.take (k + 1)) = longX x := by rw [htk, longL_snoc, hlo, Bool.false_or]
      have HB := hidI hb
      cases hf : x.f0
      · have hst : Hid (t ++ strOfNums (lowI 8 (IntKind.u64.wrap x.f1)) = strOfNums (encL (xs.take (k + 1)))) := by show _ = _; rw [hen, sn_app, ← ht]; simp [encX, hf]
        have hlo2 : Hid (longL (xs.take (k + 1)) = false) := by show _ = _; rw [hlx]; simp [longX, hf]
        obtain ⟨hu0, hu1⟩ := u64_bd x.f1
        have hs8 : (strOfNums (lowI 8 (IntKind.u64.wrap x.f1))).size = 8 := by rw [sn_size, lowI_len]
        have hsz2 : (t ++ strOfNums (lowI 8 (IntKind.u64.wrap x.f1))).size ≤ 1000000 := by rw [hst.out]; exact hsz
        rw [hf] at q0
        clear hxe htk hsm hel hsz hen hlx hlo ht hI hb hf
        go_wp2_with fail
        refine (rlow_any (IntKind.u64.wrap x.f1) 8 _ hu0 hu1 (Nat.le_refl _)).mono ?_
        rintro e w2 ⟨rfl, hb2⟩
        have hfin : Hid (longL (xs.take (k + 1)) = false ∧ t ++ strOfNums (lowI 8 (IntKind.u64.wrap x.f1)) = strOfNums (encL (xs.take (k + 1))) ∧ Below w.heap.size w w2) := ⟨hlo2.out, hst.out, below_step HB.out hb2⟩
        clear hb2 hst hlo2 hu0 hu1
        simp only []
        go_wp2
        go_roundw
        case rel => exact ⟨k + 1, by omega, by go_num, _, rfl, hsz2, hfin⟩
        case measure => simp [intOf]; omega
      · by_cases hbig : 65535 < x.f2.size
        · have hl1 : longL xs = true := by
            unfold longL
            rw [List.any_eq_true]
            exact ⟨x, by rw [hxe]; exact List.getElem_mem _, by simp [longX, hf, hbig]⟩
          have hfin : Hid (PutP xs w (.returned (.tuple #[.string ⟨#[]⟩, .bool false])) wr) := by show PutP _ _ _ _; unfold PutP; rw [hl1]; exact ⟨rfl, hb⟩
          rw [hf] at q0
          clear hxe htk hsm hel hsz hen hlx hlo ht hI hb hf hl1
          go_wp2
          go_ret2
          exact hfin.out
        · have hst : Hid ((t ++ strOfNums (lowI 2 (x.f2.size : Int))) ++ x.f2 = strOfNums (encL (xs.take (k + 1)))) := by
            show _ = _
            rw [hen, sn_app, ← ht]
            have e : encX x = lowI 2 (x.f2.size : Int) ++ bn x.f2 := by simp [encX, hf]
            rw [e, sn_app, sn_bn, ByteArray.append_assoc]
          have hlo2 : Hid (longL (xs.take (k + 1)) = false) := by show _ = _; rw [hlx]; simp [longX, hf]; omega
          have hs2 : (strOfNums (lowI 2 (x.f2.size : Int))).size = 2 := by rw [sn_size, lowI_len]
          have hsz2 : ((t ++ strOfNums (lowI 2 (x.f2.size : Int))) ++ x.f2).size ≤ 1000000 := by rw [hst.out]; exact hsz
          have hmr : IntKind.u64.wrap (x.f2.size : Int) = (x.f2.size : Int) := by rw [IntKind.wrap_u64]; omega
          have hsz3 : (t ++ strOfNums (lowI 2 (x.f2.size : Int))).size ≤ 1000002 := by rw [ByteArray.size_append]; omega
          have hcat1 : ¬ (9223372036854775807 < t.size + 2) := by omega
          have hcat2 : ¬ (9223372036854775807 < t.size + 2 + x.f2.size) := by omega
          rw [hf] at q0
          clear hxe htk hsm hel hsz hen hlx hlo ht hI hb hf
          go_wp2_with fail
          refine start_ (n := 17) (S := fun w' => w'.cell? ⟨b, off + k * 3 + 2, none⟩ = some (.string x.f2)) (ds := []) #[false, false, false, false, false, false, false, false, false, false, false, false, false, false, false, false, false] (by kernel_rfl) rfl rfl ((by rw [World.cell?_drew]; exact q2)) (fun hHeld => ?_)
          refine pure_ (i := 0) (N := some 12) (v := ?_) (a' := ?_) #[true, false, false, false, false, false, false, false, false, false, false, false, false, false, false, false, false] rfl rfl (by kernel_rfl) (fun _ _ _ h => h) (Or.inl ⟨by rfl, ?_⟩) ?_ ?_
          rotate_left
          · intro w'
            go_simp
            with_reducible rfl
          rotate_left
          · simp only [Act.put, List.setIfInBounds_toArray, List.set_cons_zero, List.set_cons_succ, i64_w, i32_w]
            rfl
          refine pure_ (i := 1) (N := some 13) (v := ?_) (a' := ?_) #[true, true, false, false, false, false, false, false, false, false, false, false, false, false, false, false, false] rfl rfl (by kernel_rfl) (fun _ _ _ h => h) (Or.inl ⟨by rfl, ?_⟩) ?_ ?_
          rotate_left
          · intro w'
            go_simp
            with_reducible rfl
          rotate_left
          · simp only [Act.put, List.setIfInBounds_toArray, List.set_cons_zero, List.set_cons_succ, i64_w, i32_w]
            rfl
          refine pure_ (i := 2) (N := some 14) (v := ?_) (a' := ?_) #[true, true, true, false, false, false, false, false, false, false, false, false, false, false, false, false, false] rfl rfl (by kernel_rfl) (fun _ _ _ h => h) (Or.inl ⟨by rfl, ?_⟩) ?_ ?_
          rotate_left
          · intro w'
            go_simp
            with_reducible rfl
          rotate_left
          · simp only [Act.put, List.setIfInBounds_toArray, List.set_cons_zero, List.set_cons_succ, i64_w, i32_w]
            rfl
          refine pure_ (i := 3) (N := some 15) (v := ?_) (a' := ?_) #[true, true, true, true, false, false, false, false, false, false, false, false, false, false, false, false, false] rfl rfl (by kernel_rfl) (fun _ _ _ h => h) (Or.inl ⟨by rfl, ?_⟩) ?_ ?_
          rotate_left
          · intro w'
            go_simp
            with_reducible rfl
          rotate_left
          · simp only [Act.put, List.setIfInBounds_toArray, List.set_cons_zero, List.set_cons_succ, i64_w, i32_w]
            rfl
          refine pure_ (i := 4) (N := some 16) (v := ?_) (a' := ?_) #[true, true, true, true, true, false, false, false, false, false, false, false, false, false, false, false, false] rfl rfl (by kernel_rfl) (fun _ _ _ h => h) (Or.inl ⟨by rfl, ?_⟩) ?_ ?_
          rotate_left
          · intro w'
            go_simp
            with_reducible rfl
          rotate_left
          · simp only [Act.put, List.setIfInBounds_toArray, List.set_cons_zero, List.set_cons_succ, i64_w, i32_w]
            rfl
          refine pure_ (i := 10) (N := some 22) (v := ?_) (a' := ?_) #[true, true, true, true, true, false, false, false, false, false, true, false, false, false, false, false, false] rfl rfl (by kernel_rfl) (fun _ _ _ h => h) (Or.inl ⟨by rfl, ?_⟩) ?_ ?_
          rotate_left
          · intro w'
            go_simp
            with_reducible rfl
          rotate_left
          · simp only [Act.put, List.setIfInBounds_toArray, List.set_cons_zero, List.set_cons_succ, i64_w, i32_w]
            rfl
          refine pure_ (i := 11) (N := some 23) (v := ?_) (a' := ?_) #[true, true, true, true, true, false, false, false, false, false, true, true, false, false, false, false, false] rfl rfl (by kernel_rfl) (fun _ _ _ h => h) (Or.inl ⟨by rfl, ?_⟩) ?_ ?_
          rotate_left
          · intro w'
            go_simp
            with_reducible rfl
          rotate_left
          · simp only [Act.put, List.setIfInBounds_toArray, List.set_cons_zero, List.set_cons_succ, i64_w, i32_w]
            rfl
          refine pure_ (i := 12) (N := some 24) (v := ?_) (a' := ?_) #[true, true, true, true, true, false, false, false, false, false, true, true, true, false, false, false, false] rfl rfl (by kernel_rfl) (fun _ _ _ h => h) (Or.inl ⟨by rfl, ?_⟩) ?_ ?_
          rotate_left
          · intro w'
            go_simp
            with_reducible rfl
          rotate_left
          · simp only [Act.put, List.setIfInBounds_toArray, List.set_cons_zero, List.set_cons_succ, i64_w, i32_w]
            rfl
          refine pure_ (i := 13) (N := some 25) (v := ?_) (a' := ?_) #[true, true, true, true, true, false, false, false, false, false, true, true, true, true, false, false, false] rfl rfl (by kernel_rfl) (fun _ _ _ h => h) (Or.inl ⟨by rfl, ?_⟩) ?_ ?_
          rotate_left
          · intro w'
            go_simp
            with_reducible rfl
          rotate_left
          · simp only [Act.put, List.setIfInBounds_toArray, List.set_cons_zero, List.set_cons_succ, i64_w, i32_w]
            rfl
          refine take_ (i := 5) (N := some 17) (v := ?_) (a' := ?_) #[true, true, true, true, true, true, false, false, false, false, true, true, true, true, false, false, false] rfl rfl (by kernel_rfl) (fun _ _ _ h => h) (Or.inl ⟨by rfl, ?_⟩) hHeld ?_ ?_
          rotate_left
          · intro w' s0
            go_simp
            with_reducible rfl
          rotate_left
          · simp only [Act.put, List.setIfInBounds_toArray, List.set_cons_zero, List.set_cons_succ, i64_w, i32_w]
            rfl
          refine pure_ (i := 6) (N := some 18) (v := ?_) (a' := ?_) #[true, true, true, true, true, true, true, false, false, false, true, true, true, true, false, false, false] rfl rfl (by kernel_rfl) (fun _ _ _ h => h) (Or.inl ⟨by rfl, ?_⟩) ?_ ?_
          rotate_left
          · intro w'
            go_simp
            with_reducible rfl
          rotate_left
          · simp only [Act.put, List.setIfInBounds_toArray, List.set_cons_zero, List.set_cons_succ, i64_w, i32_w]
            rfl
          refine pure_ (i := 7) (N := some 19) (v := ?_) (a' := ?_) #[true, true, true, true, true, true, true, true, false, false, true, true, true, true, false, false, false] rfl rfl (by kernel_rfl) (fun _ _ _ h => h) (Or.inl ⟨by rfl, ?_⟩) ?_ ?_
          rotate_left
          · intro w'
            go_simp
            with_reducible rfl
          rotate_left
          · simp only [Act.put, List.setIfInBounds_toArray, List.set_cons_zero, List.set_cons_succ, i64_w, i32_w]
            rfl
          refine take_ (i := 14) (N := some 26) (v := ?_) (a' := ?_) #[true, true, true, true, true, true, true, true, false, false, true, true, true, true, true, false, false] rfl rfl (by kernel_rfl) (fun _ _ _ h => h) (Or.inl ⟨by rfl, ?_⟩) hHeld ?_ ?_
          rotate_left
          · intro w' s0
            go_simp
            with_reducible rfl
          rotate_left
          · simp only [Act.put, List.setIfInBounds_toArray, List.set_cons_zero, List.set_cons_succ, i64_w, i32_w]
            rfl
          refine one_ (i := 8) (N := some 20) #[true, true, true, true, true, true, true, true, true, false, true, true, true, true, true, false, false] rfl rfl (by kernel_rfl) (by decide) (fun K hK => ?_)
          refine goes_ Try.func83 (by kernel_rfl) rfl #[.int .u64 (x.f2.size : Int), .int .i64 2] (by rfl) rfl rfl (by simp only [List.map_toArray, List.map_cons, List.map_nil]; rfl) ?_
          with_reducible refine (rlow2_any (x.f2.size : Int) _ (by omega) (by omega)).mono ?_
          rintro e w3 ⟨rfl, hb2⟩
          refine ⟨_, rfl, ?_⟩
          refine hK.out _ _ ((pw_cell_below hb2 hHeld)) (fun hHeld => ?_)
          clear hK K
          refine norm_ (a' := ?_) ?_ ?_
          rotate_left
          · show Act.put _ (some 20) _ = _
            simp only [Act.put, List.setIfInBounds_toArray, List.set_cons_zero, List.set_cons_succ, i64_w, i32_w]
            rfl
          refine pure_ (i := 9) (N := some 21) (v := ?_) (a' := ?_) #[true, true, true, true, true, true, true, true, true, true, true, true, true, true, true, false, false] rfl rfl (by kernel_rfl) (fun _ _ _ h => h) (Or.inl ⟨by rfl, ?_⟩) ?_ ?_
          rotate_left
          · intro w'
            go_simp
            with_reducible rfl
          rotate_left
          · simp only [Act.put, List.setIfInBounds_toArray, List.set_cons_zero, List.set_cons_succ, i64_w, i32_w]
            rfl
          refine pure_ (i := 15) (N := some 27) (v := ?_) (a' := ?_) #[true, true, true, true, true, true, true, true, true, true, true, true, true, true, true, true, false] rfl rfl (by kernel_rfl) (fun _ _ _ h => h) (Or.inl ⟨by rfl, ?_⟩) ?_ ?_
          rotate_left
          · intro w'
            go_simp
            with_reducible rfl
          rotate_left
          · simp only [Act.put, List.setIfInBounds_toArray, List.set_cons_zero, List.set_cons_succ, i64_w, i32_w]
            rfl
          refine pure_ (i := 16) (N := some 4) (v := ?_) (a' := ?_) #[true, true, true, true, true, true, true, true, true, true, true, true, true, true, true, true, true] rfl rfl (by kernel_rfl) (fun _ _ _ h => h) (Or.inl ⟨by rfl, ?_⟩) ?_ ?_
          rotate_left
          · intro w'
            go_simp
            with_reducible rfl
          rotate_left
          · simp only [Act.put, List.setIfInBounds_toArray, List.set_cons_zero, List.set_cons_succ, i64_w, i32_w]
            rfl
          refine done_ (by kernel_rfl) ?_
          have hfin : Hid (longL (xs.take (k + 1)) = false ∧ t ++ strOfNums (lowI 2 (x.f2.size : Int)) ++ x.f2 = strOfNums (encL (xs.take (k + 1))) ∧ Below w.heap.size w w3) := ⟨hlo2.out, hst.out, below_step HB.out (below_step (Below.refl wr.heap.size wr).drew hb2)⟩
          clear hb2 hst hlo2 hmr hHeld
          go_wp2
          go_roundw
          case rel => exact ⟨k + 1, by omega, by go_num, _, rfl, hsz2, hfin⟩
          case measure => simp [intOf]; omega
    · obtain ⟨hlo, ht, hb⟩ := hI.out
      have e : k = xs.length := by omega
      rw [e, List.take_length] at hlo ht
      have hfin : Hid (PutP xs w (.returned (.tuple #[.string t, .bool true])) wr) := by show PutP _ _ _ _; unfold PutP; rw [hlo, ht]; exact ⟨rfl, hb⟩
      clear e hlo ht hb hI
      go_wp2
      go_ret2
      exact hfin.out
end Go.Proofs.Ytliacfjdenfldaa
