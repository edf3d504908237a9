import Derived.Test.YtliacfjdenfldaaRd
import Derived.Test.YtliacfjdenfldaaKq
import Derived.Lib.AppendStr
import Derived.Laws.BitsAllLaws
namespace Go.Proofs.Ytliacfjdenfldaa
open Go.RowKit Go.Proofs.Kq
set_option linter.unusedSimpArgs false
set_option linter.unusedVariables false

/-- a number's lowest bytes, the lowest first -/
def lowI : Nat → Int → List Int
  | 0, _ => []
  | k + 1, n => n % 256 :: lowI k (n / 256)
theorem lowI_len : ∀ (k : Nat) (n : Int), (lowI k n).length = k
  | 0, _ => rfl
  | k + 1, n => by simp [lowI, lowI_len k]
theorem lowI_mem : ∀ (k : Nat) (n : Int), ∀ z ∈ lowI k n, 0 ≤ z ∧ z < 256
  | 0, _, z, hz => by simp [lowI] at hz
  | k + 1, n, z, hz => by
    simp only [lowI, List.mem_cons] at hz
    rcases hz with rfl | hz
    · omega
    · exact lowI_mem k _ z hz
theorem lowI_snoc : ∀ (k : Nat) (n : Int), lowI (k + 1) n = lowI k n ++ [n / 256 ^ k % 256]
  | 0, n => by simp [lowI]
  | k + 1, n => by
    have h := lowI_snoc k (n / 256)
    rw [lowI, h]
    simp only [lowI, List.cons_append]
    congr 3
    rw [Int.ediv_ediv_of_nonneg (by decide), Int.pow_succ, Int.mul_comm 256]
/-- the number of bytes -/
def vI : List Int → Int
  | [] => 0
  | b :: l => b + 256 * vI l
theorem vI_low : ∀ (k : Nat) (n : Int), 0 ≤ n → n < 256 ^ k → vI (lowI k n) = n
  | 0, n, h0, h1 => by simp at h1; simp [lowI, vI]; omega
  | k + 1, n, h0, h1 => by
    have : n / 256 < 256 ^ k := by rw [Int.pow_succ] at h1; exact Int.ediv_lt_of_lt_mul (by decide) h1
    simp only [lowI, vI]
    rw [vI_low k (n / 256) (by omega) this]
    omega
theorem vI_bd : ∀ (l : List Int), (∀ z ∈ l, 0 ≤ z ∧ z < 256) → 0 ≤ vI l ∧ vI l < 256 ^ l.length
  | [], _ => by simp [vI]
  | b :: l, h => by
    have h1 := vI_bd l (fun z hz => h z (by simp [hz]))
    have h2 := h b (by simp)
    simp only [vI, List.length_cons, Int.pow_succ]
    generalize (256 : Int) ^ l.length = p at *
    omega
theorem vI_snoc : ∀ (l : List Int) (b : Int), vI (l ++ [b]) = vI l + b * 256 ^ l.length
  | [], b => by simp [vI]
  | a :: l, b => by
    simp only [List.cons_append, vI, vI_snoc l b, List.length_cons, Int.pow_succ]
    generalize (256 : Int) ^ l.length = p
    rw [Int.mul_add, Int.add_assoc]
    congr 2
    rw [← Int.mul_assoc, Int.mul_comm 256 b, Int.mul_assoc, Int.mul_comm 256 p]
def lcells (l : List Int) : Array Value := (l.map fun z => Value.int .u8 z).toArray
def LowP (k : Nat) (n : Int) (w : World) (e : Ending) (w' : World) : Prop := ∃ b, e = .returned (.slice (some ⟨b, 0, none⟩) k k) ∧ Blk w' b (lcells (lowI k n)) 5 ∧ w.heap.size ≤ b ∧ Below w.heap.size w w'
set_option maxHeartbeats 4000000 in
theorem low2_any (n : Int) (w : World) (h0 : 0 ≤ n) (h1 : n ≤ 65535) :
    Calls Try.prog 82 #[.int .u64 n, .int .i64 2] w (LowP 2 n w) := by
  have hmk : ∀ w, (Instr.makeSlice 64 (.int .i64 2) (.int .i64 2)).run Try.prog w = .ok (.slice (some ⟨w.heap.size, 0, none⟩) 2 2) (w.alloc (.cells #[.int .u8 0, .int .u8 0] 5)) := fun _ => by kernel_rfl
  have hend : Hid (∀ w', w' = w.alloc (.cells #[.int .u8 (n % 256), .int .u8 (n / 256)] 5) → LowP 2 n w (.returned (.slice (some ⟨w.heap.size, 0, none⟩) 2 2)) w') := by
    rintro w' rfl
    have e : n / 256 % 256 = n / 256 := by omega
    exact ⟨_, rfl, by simp only [lcells, lowI, e]; exact Blk.new' rfl, Nat.le_refl _, below_new (Below.refl _ _) _⟩
  go_enter Try.func82, Try.ntmps82
  go_wp2
  refine wp_loop_rounds 3 ?_
  iterate 3
    rw [rounds_succ]
    go_wp2
  go_ret
  exact hend.out _ rfl
set_option maxHeartbeats 4000000 in
theorem low8_any (n : Int) (w : World) (h0 : 0 ≤ n) (h1 : n ≤ 18446744073709551615) :
    Calls Try.prog 82 #[.int .u64 n, .int .i64 8] w (LowP 8 n w) := by
  have hmk : ∀ w, (Instr.makeSlice 64 (.int .i64 8) (.int .i64 8)).run Try.prog w = .ok (.slice (some ⟨w.heap.size, 0, none⟩) 8 8) (w.alloc (.cells #[.int .u8 0, .int .u8 0, .int .u8 0, .int .u8 0, .int .u8 0, .int .u8 0, .int .u8 0, .int .u8 0] 5)) := fun _ => by kernel_rfl
  have hend : Hid (∀ w', w' = w.alloc (.cells #[.int .u8 (n % 256), .int .u8 (n / 256 % 256), .int .u8 (n / 65536 % 256), .int .u8 (n / 16777216 % 256), .int .u8 (n / 4294967296 % 256), .int .u8 (n / 1099511627776 % 256), .int .u8 (n / 281474976710656 % 256), .int .u8 (n / 72057594037927936)] 5) → LowP 8 n w (.returned (.slice (some ⟨w.heap.size, 0, none⟩) 8 8)) w') := by
    rintro w' rfl
    have e2 : n / 256 / 256 % 256 = n / 65536 % 256 := by omega
    have e3 : n / 256 / 256 / 256 % 256 = n / 16777216 % 256 := by omega
    have e4 : n / 256 / 256 / 256 / 256 % 256 = n / 4294967296 % 256 := by omega
    have e5 : n / 256 / 256 / 256 / 256 / 256 % 256 = n / 1099511627776 % 256 := by omega
    have e6 : n / 256 / 256 / 256 / 256 / 256 / 256 % 256 = n / 281474976710656 % 256 := by omega
    have e7 : n / 256 / 256 / 256 / 256 / 256 / 256 / 256 % 256 = n / 72057594037927936 := by omega
    exact ⟨_, rfl, by simp only [lcells, lowI, e2, e3, e4, e5, e6, e7]; exact Blk.new' rfl, Nat.le_refl _, below_new (Below.refl _ _) _⟩
  go_enter Try.func82, Try.ntmps82
  go_wp2
  refine wp_loop_rounds 9 ?_
  iterate 9
    rw [rounds_succ]
    go_wp2
  go_ret
  exact hend.out _ rfl

/-- a text's bytes -/
def bn (s : ByteArray) : List Int := s.data.toList.map fun b => (b.toNat : Int)
theorem bn_len (s : ByteArray) : (bn s).length = s.size := by simp [bn]
theorem bn_mem (s : ByteArray) : ∀ z ∈ bn s, 0 ≤ z ∧ z < 256 := by
  intro z hz
  simp only [bn, List.mem_map] at hz
  obtain ⟨b, _, rfl⟩ := hz
  have := b.toNat_lt
  omega
theorem bn_at (s : ByteArray) (k : Nat) (h : k < s.size) : (bn s)[k]'(by rw [bn_len]; exact h) = (s[k].toNat : Int) := by
  simp only [bn, List.getElem_map, Array.getElem_toList]; rfl
theorem take_bn (s : ByteArray) (k : Nat) (h : k < s.size) : (bn s).take (k + 1) = (bn s).take k ++ [(s[k].toNat : Int)] := by
  rw [List.take_succ_eq_append_getElem (by rw [bn_len]; exact h), bn_at s k h]
theorem pow7 {k : Nat} (h : k ≤ 7) : (256 : Int) ^ k ≤ 256 ^ 7 := by
  have h8 : k = 0 ∨ k = 1 ∨ k = 2 ∨ k = 3 ∨ k = 4 ∨ k = 5 ∨ k = 6 ∨ k = 7 := by omega
  rcases h8 with rfl | rfl | rfl | rfl | rfl | rfl | rfl | rfl <;> decide
theorem bits_add (acc b : Int) (k : Nat) (hk : k < 8) (h0 : 0 ≤ acc) (h1 : acc < 256 ^ k) (hb0 : 0 ≤ b) (hb1 : b < 256) : bits .or .u64 acc (b * 256 ^ k) = acc + b * 256 ^ k := by
  obtain ⟨a, rfl⟩ : ∃ a : Nat, acc = a := ⟨acc.toNat, by omega⟩
  obtain ⟨c, rfl⟩ : ∃ c : Nat, b = c := ⟨b.toNat, by omega⟩
  have e : (256 : Int) ^ k = ((2 ^ (8 * k) : Nat) : Int) := by
    rw [Nat.pow_mul]; simp
  rw [e] at h1 ⊢
  have ha : a < 2 ^ (8 * k) := by omega
  have hc : c < 256 := by omega
  have hp : 2 ^ (8 * k) ≤ 2 ^ 56 := Nat.pow_le_pow_right (by decide) (by omega)
  have hcp : c * 2 ^ (8 * k) ≤ 255 * 2 ^ 56 := Nat.mul_le_mul (by omega) hp
  have e2 : (c : Int) * ((2 ^ (8 * k) : Nat) : Int) = ((c * 2 ^ (8 * k) : Nat) : Int) := by simp
  rw [e2, u64_or_nat a _ (by omega) (by omega)]
  have h := Nat.two_pow_add_eq_or_of_lt ha c
  rw [Nat.or_comm, Nat.mul_comm c, ← h]
  omega
set_option maxHeartbeats 2000000 in
theorem number_any (s : ByteArray) (w : World) (hs : s.size ≤ 8) :
    Calls Try.prog 85 #[.string s] w fun e w' => e = .returned (.int .u64 (vI (bn s))) ∧ w = w' := by
  go_enter Try.func85, Try.ntmps85
  go_wp2
  go_loop [3, 7] (fun n i => ∃ k : Nat, k ≤ s.size ∧ i = .int .i64 k ∧ ∃ v : Int, n = .int .u64 v ∧ Hid (v = vI ((bn s).take k))) (fun _ i => s.size - (intOf i).toNat)
  case atStart => exact ⟨0, Nat.zero_le _, rfl, 0, rfl, hidI (by simp [vI])⟩
  case round =>
    obtain ⟨k, hk, rfl, v, rfl, hv⟩ := hrel
    by_cases hlt : k < s.size
    · have hst : Hid (bits BinOp.or IntKind.u64 v (IntKind.u64.wrap (IntKind.u64.wrap ↑s[k].toNat * 2 ^ (8 * k))) = vI ((bn s).take (k + 1))) := by
        show _ = _
        have hb := s[k].toNat_lt
        have hl : ((bn s).take k).length = k := by rw [List.length_take, bn_len]; omega
        have h1 := vI_bd ((bn s).take k) (fun z hz => bn_mem s z (List.mem_of_mem_take hz))
        rw [hl, ← hv.out] at h1
        rw [take_bn s k hlt, vI_snoc, hl, ← hv.out]
        have e1 : IntKind.u64.wrap (s[k].toNat : Int) = (s[k].toNat : Int) := by rw [IntKind.wrap_u64]; omega
        have e2 : (2 : Int) ^ (8 * k) = 256 ^ k := by rw [Int.pow_mul]; rfl
        have hp : (256 : Int) ^ k ≤ 256 ^ 7 := pow7 (by omega)
        have hp0 : (0 : Int) < 256 ^ k := Int.pow_pos (by decide)
        have h3 : (s[k].toNat : Int) * 256 ^ k ≤ 255 * 256 ^ 7 := Int.mul_le_mul (by omega) hp (by omega) (by decide)
        have h4 : 0 ≤ (s[k].toNat : Int) * 256 ^ k := Int.mul_nonneg (by omega) (by omega)
        have e3 : IntKind.u64.wrap ((s[k].toNat : Int) * 256 ^ k) = (s[k].toNat : Int) * 256 ^ k := by rw [IntKind.wrap_u64]; omega
        rw [e1, e2, e3]
        exact bits_add v _ k (by omega) h1.1 h1.2 (by omega) (by omega)
      go_wp2
      go_round
      case rel => exact ⟨k + 1, by omega, by go_num, _, rfl, hst⟩
      case measure => simp [intOf]; omega
    · have e : Hid (v = vI (bn s)) := by
        show _ = _
        rw [hv.out, List.take_of_length_le (by rw [bn_len]; omega)]
      go_wp2
      go_ret
      exact ⟨by rw [e.out]; rfl, rfl⟩
set_option maxHeartbeats 2000000 in
theorem rnumber_any (s : ByteArray) (w : World) (hs : s.size ≤ 8) :
    Calls Try.prog 86 #[.string s] w fun e w' => e = .returned (.int .u64 (vI (bn s))) ∧ w = w' := by
  go_enter Try.func86, Try.ntmps86
  go_wp2
  go_loop [3, 4] (fun n i => ∃ k : Nat, k ≤ s.size ∧ i = .int .i64 ((k : Int) - 1) ∧ ∃ v : Int, n = .int .u64 v ∧ 0 ≤ v ∧ Hid (v < 256 ^ (s.size - k)) ∧ Hid (v = vI ((bn s).drop k))) (fun _ i => (intOf i + 1).toNat)
  case atStart => exact ⟨s.size, Nat.le_refl _, rfl, 0, rfl, by omega, hidI (by simp), hidI (by rw [List.drop_of_length_le (by rw [bn_len]; omega)]; rfl)⟩
  case round =>
    obtain ⟨k, hk, rfl, v, rfl, hv0, hv1, hv⟩ := hrel
    cases k with
    | zero =>
      have e : Hid (v = vI (bn s)) := hv
      go_wp2
      go_ret
      exact ⟨by rw [e.out]; rfl, rfl⟩
    | succ k =>
      have hlt : k < s.size := by omega
      have e0 : ((k + 1 : Nat) : Int) - 1 = k := by omega
      rw [e0]
      have hb := s[k].toNat_lt
      have hdr : (bn s).drop k = (s[k].toNat : Int) :: (bn s).drop (k + 1) := by rw [List.drop_eq_getElem_cons (by rw [bn_len]; exact hlt), bn_at s k hlt]
      have hp : (256 : Int) ^ (s.size - (k + 1)) ≤ 256 ^ 7 := pow7 (by omega)
      have hv2 := hv1.out
      have e1 : v * 256 ≤ 18446744073709551615 - 255 := by
        have : (256 : Int) ^ 7 = 72057594037927936 := by decide
        omega
      have hst : Hid (v * 256 + (s[k].toNat : Int) = vI ((bn s).drop k)) := by show _ = _; rw [hdr, vI, ← hv.out]; omega
      have hst2 : Hid (v * 256 + (s[k].toNat : Int) < 256 ^ (s.size - k)) := by
        show v * 256 + (s[k].toNat : Int) < _
        have e3 : s.size - k = (s.size - (k + 1)) + 1 := by omega
        rw [e3, Int.pow_succ]
        generalize (256 : Int) ^ (s.size - (k + 1)) = p at *
        omega
      clear hdr hp hv1 hv hv2 e0
      go_wp2
      go_round
      case rel => exact ⟨k, by omega, by go_num, _, rfl, by omega, hst2, hst⟩
      case measure => simp [intOf]
end Go.Proofs.Ytliacfjdenfldaa
