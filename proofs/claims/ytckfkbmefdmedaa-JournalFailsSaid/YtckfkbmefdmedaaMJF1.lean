/- What the statement leans on, part 1: functions of the program and of the reference as Lean functions, their contracts, and plain laws. -/
import Derived.WalkKit
import Derived.ProofKit
import Derived.OpenShut
import Derived.ShutString
import Derived.ChangeOld
import Derived.Below
import Derived.SizedLaws
import Derived.Deep.Draws
import Derived.Deep.AppendLies
import Derived.Maps.AppendAt
import Derived.OwnWalk
import Derived.Laws.BytesArg
import Derived.Laws.MakeOwn
import Derived.Laws.OwnMore
import Derived.Deep.OwnRows
import Derived.Tactics
import Derived.Lib.ConvBytes
import Derived.Laws.Slices
import Derived.KernelRfl
import Derived.RowKit3
import Derived.Deep.LoopGhost
import Derived.Deep.QuietTactic
import Derived.BigQuiet
import Derived.WideLaws
import Derived.Deep.DeepCutAuto
import Derived.Deep.CutBlock
import Derived.Deep.RegionHeld3
import Derived.Laws.Rows
import Derived.Lib.AppendStr
import Derived.ArgAppend
import Derived.Laws.IdiomCopy
import Derived.RowKit
import Derived.OrdersHeld
import Derived.Laws.BitsLemmas
import Derived.Laws.StructEq
import Derived.Test.YtckfkbmefdmedaaProg
import Derived.Test.YtckfkbmefdmedaaRows
import Derived.WalkSpells
import Derived.WalkLawsBesides
import Derived.Handy
import Derived.RegionTactic
import Derived.ChangeAlike
import Derived.Deep.RegionLaw
import Derived.Laws.BitsAllLaws
import Derived.Lib.Strings
import Derived.Shelf.Strings.Builder1
import Derived.Shelf.Strings.Builder2
import Derived.Shelf.Small.Bits
import Derived.Shelf.Strings.BuilderF
import Derived.Shelf.Strings.BuilderK
import Derived.Shelf.Strings.Builder2Cap
import Derived.Shelf.Strconv.Itoa0
import Derived.Shelf.Strings.Prefix
import Derived.Shelf.Bits.Mul64
import Derived.Shelf.Strings.Repeat
import Derived.Shelf.Strings.BuilderCap
import Derived.Shelf.Slices.Turned
import Derived.Shelf.Slices.Equal
import Derived.Ground.Names2Prog
import Derived.Shelf.Slices.Clone
import Derived.Shelf.Slices.Empties2
import Derived.Ground.SlgnProg
import Derived.Shelf.SlicesE.Clone
import Derived.WalkMore
namespace Go.Proofs.Rk
open Go.ChangeShapes Go.WideShapes Go.ChangeAt Go.RowKit
set_option linter.unusedSimpArgs false
section
variable {H : Type} {enc : TypeId × Value → H} {P : Program} {w : World} {base : Nat} {spare : Nat → Bool} {held : Bool}
theorem okWide_array {t e : TypeId} {n : Nat} {r : Reach} {b0 : Nat} {v : Value} (ht : P.underlying t = some (.array n e)) (h : Value.okWide P w r b0 t v) : ∃ cs, v = .agg cs ∧ cs.size = P.cellsOf t := by
  simp only [Value.okWide, ht, Cell.okWide] at h
  cases v <;> simp_all [Cell.ok, Value.cells]
structure Kn (P : Program) (t : TypeId) (A : Type) where
  cells : A → List Value
  ok : A → Prop
  rd : ∀ {H : Type} {enc : TypeId × Value → H} {w : World} {base : Nat} {spare : Nat → Bool} {held : Bool} {fuel : Nat} {cs : List Value} {x : DataW H × List MemPlace},
    DataW.trod enc P w base spare held fuel t cs = some x → ∃ a, cs = cells a ∧ ok a
def Kn.int {P : Program} {t : TypeId} {k : IntKind} (h : P.underlying t = some (.int k)) : Kn P t Int where
  cells n := [.int k n]
  ok n := (Lit.int k n).wf = true
  rd h' := by obtain ⟨n, rfl, _, hw⟩ := DataW.trod_int h h'; exact ⟨n, rfl, hw⟩
def Kn.bool {P : Program} {t : TypeId} (h : P.underlying t = some .bool) : Kn P t Bool where
  cells b := [.bool b]
  ok _ := True
  rd h' := by obtain ⟨b, rfl, _⟩ := DataW.trod_bool h h'; exact ⟨b, rfl, trivial⟩
def Kn.str {P : Program} {t : TypeId} (h : P.underlying t = some .string) : Kn P t ByteArray where
  cells s := [.string s]
  ok s := s.size ≤ maxLen
  rd h' := by obtain ⟨s, rfl, _, hs⟩ := DataW.trod_string h h'; exact ⟨s, rfl, hs⟩
def RdSl (w : World) {A : Type} (cells : A → List Value) (ok : A → Prop) (C : Nat) (ad : Option Addr) (xs : List A) (cap : Nat) : Prop :=
  (ad = none ∧ xs = [] ∧ cap = 0) ∨ ∃ p : Addr, ad = some p ∧ xs.length ≤ cap ∧ cap ≤ maxLen ∧ (∀ a ∈ xs, ok a) ∧ (0 < xs.length → 0 < C → p.spot = none) ∧
    ∀ (i : Nat) (h : i < xs.length) (j : Nat) (v : Value), (cells xs[i])[j]? = some v → w.cell? ⟨p.block, p.off + (i * C + j), none⟩ = some v
theorem list_of {A : Type} {Q : Nat → A → Prop} : ∀ n, (∀ i, i < n → ∃ a, Q i a) → ∃ xs : List A, xs.length = n ∧ ∀ i (h : i < xs.length), Q i xs[i]
  | 0, _ => ⟨[], rfl, fun i h => absurd h (by simp)⟩
  | n + 1, h => by
    obtain ⟨xs, hl, hx⟩ := list_of n (fun i hi => h i (by omega))
    obtain ⟨a, ha⟩ := h n (by omega)
    refine ⟨xs ++ [a], by simp [hl], fun i hi => ?_⟩
    rw [List.getElem_append]
    split
    · exact hx i _
    · have : i = n := by simp at hi; omega
      subst this
      simpa using ha
theorem cell_spot {w : World} {p : Addr} {k : Nat} {v : Value} (h : w.cell? (p.add k) = some v) : w.cell? ⟨p.block, p.off + k, none⟩ = some v := by
  unfold Addr.add at h
  split at h
  · rename_i hk
    subst hk
    unfold World.cell? at h ⊢
    split at h
    · rename_i c _ _ hb
      split at h
      · cases h
      · simp only [hb]; simpa using h
    · cases h
  · exact h
theorem spot_none {w : World} {p : Addr} {v : Value} (h : w.cell? p = some v) : p.spot = none := by
  unfold World.cell? at h
  split at h
  · split at h
    · cases h
    · rename_i hs; cases hp : p.spot with
      | none => rfl
      | some x => simp [hp] at hs
  · cases h
theorem add_add (a : Addr) (i j : Nat) : (a.add i).add j = a.add (i + j) := by
  unfold Addr.add
  by_cases hi : i = 0
  · subst hi; simp
  · by_cases hj : j = 0
    · subst hj; simp [hi]
    · simp [hi, hj, Nat.add_assoc]
theorem Kn.slice {t e : TypeId} {A : Type} (K : Kn P e A) {C : Nat} (hC : P.cellsOf e = C) (ht : P.underlying t = some (.slice e)) {ad : Option Addr} {len cap : Nat} {d : DataW H} {ps : List MemPlace}
    (h : DataW.Trod enc P w base spare held t (.slice ad len cap) d ps) : ∃ xs : List A, len = xs.length ∧ RdSl w K.cells K.ok C ad xs cap := by
  obtain ⟨fuel, hf⟩ := h
  rcases DataW.trod_slice ht hf with ⟨hcs, _⟩ | ⟨a, l, c, elems, rest, n, _, hcs, _, hb, hlc, hcm, hel, hi, _⟩
  · simp [Value.cells] at hcs
    obtain ⟨rfl, rfl, rfl⟩ := hcs
    exact ⟨[], rfl, .inl ⟨rfl, rfl, rfl⟩⟩
  · simp [Value.cells] at hcs
    obtain ⟨rfl, rfl, rfl⟩ := hcs
    obtain ⟨xs, hxl, hxs⟩ := list_of (Q := fun i (x : A) => K.ok x ∧ ∀ (j : Nat) (v : Value), (K.cells x)[j]? = some v → w.cell? ⟨a.block, a.off + (i * C + j), none⟩ = some v) len (fun i hlt => by
      have h1 := hi i hlt
      rw [List.getElem?_eq_getElem (by omega)] at h1
      obtain ⟨cs, hcs, htr⟩ := Option.bind_eq_some_iff.1 h1
      obtain ⟨x, rfl, hok⟩ := K.rd htr
      obtain ⟨_, hl, hat⟩ := World.cells?_some hcs
      refine ⟨x, hok, fun j v hj => ?_⟩
      have hjl : j < P.cellsOf e := by
        rw [← hl]; exact (List.getElem?_eq_some_iff.1 hj).1
      have := hat j hjl
      rw [hj, hC] at this
      rw [add_add] at this
      exact cell_spot this)
    refine ⟨xs, hxl.symm, .inr ⟨a, rfl, by omega, hcm, fun x hx => ?_, fun hn hC0 => ?_, fun i hlt j v hj => (hxs i hlt).2 j v hj⟩⟩
    rotate_left
    · have h1 := hi 0 (by omega)
      rw [List.getElem?_eq_getElem (by omega)] at h1
      obtain ⟨cs, hcs, _⟩ := Option.bind_eq_some_iff.1 h1
      obtain ⟨_, hl, hat⟩ := World.cells?_some hcs
      have h2 := hat 0 (by omega)
      rw [List.getElem?_eq_getElem (by omega)] at h2
      have := spot_none h2
      simpa [Addr.add] using this
    obtain ⟨i, hlt, rfl⟩ := List.getElem_of_mem hx
    exact (hxs i hlt).1
end
end Go.Proofs.Rk
set_option linter.unusedVariables false
set_option linter.unusedSimpArgs false
namespace Go.Proofs.YtckfkbmefdmedaaW.PrintWords
open Go.RowKit
structure Aside0 (p : Prop) : Prop where mk :: (out : p)
structure Drawn0 (w w' : World) : Prop where mk :: (out : ∃ n, w' = w.drewN n)
theorem Drawn0.refl (w : World) : Drawn0 w w := ⟨⟨0, rfl⟩⟩
theorem Drawn0.step {w w' : World} (h : Drawn0 w w') (n : Nat) : Drawn0 w (w'.drewN n) := by
  obtain ⟨m, rfl⟩ := h
  exact ⟨⟨m + n, World.drewN_drewN ..⟩⟩
theorem Drawn0.grown {w w' : World} (h : Drawn0 w w') : Grown w w' := by
  obtain ⟨n, rfl⟩ := h
  induction n with
  | zero => exact Grown.refl _
  | succ n ih => rw [← World.drew_drewN]; exact Grown.drew ih
theorem Drawn0.below {w w' : World} (h : Drawn0 w w') : Below w.heap.size w w' := by
  obtain ⟨n, rfl⟩ := h
  induction n with
  | zero => exact Below.refl _ _
  | succ n ih => rw [← World.drew_drewN]; exact ih.drew
def rd (xs : List Int) (i : Int) : Int := xs.getD i.toNat 0
def bt (s : ByteArray) (i : Int) : Int := if h : i.toNat < s.size then ((s[i.toNat]'h).toNat : Int) else 0
theorem bt_at (s : ByteArray) (i : Int) : ∀ h : i.toNat < s.size, ((s[i.toNat]'h).toNat : Int) = bt s i := fun h => by simp [bt, h]
def nums (k : IntKind) (xs : List Int) : List Value := xs.map fun x => .int k x
theorem below_alloc {w W : World} (h : Below w.heap.size w W) (o : Obj) : Below w.heap.size w (W.alloc o) := h.alloc h.size o
theorem below_drew {B : Nat} {w W : World} (h : Below B w W) : Below B w W.drew := ⟨h.os, h.tape, h.output, h.size, h.block⟩
theorem pw_below_drewN {B : Nat} {w W : World} (h : Below B w W) (n : Nat) : Below B w (W.drewN n) := ⟨h.os, h.tape, h.output, h.size, h.block⟩
theorem below_then {B : Nat} {w w1 w2 : World} (h : Below B w w1) (hB : B ≤ w1.heap.size) (k : Below w1.heap.size w1 w2) : Below B w w2 :=
  h.trans ⟨k.os, k.tape, k.output, k.size, fun i hi => k.block i (Nat.lt_of_lt_of_le hi hB)⟩
theorem grown_of_below {w w1 : World} (h : Below w.heap.size w w1) (row : Option Nat) : w.grownBy w1 row := ⟨h.os, h.tape, h.output, h.size, fun i hi _ => h.block i hi⟩
theorem pw_cell_below {w w1 : World} (h : Below w.heap.size w w1) {a : Addr} {v : Value} (hc : w.cell? a = some v) : w1.cell? a = some v := (h.cell (World.block_lt_of_cell? w a hc)).trans hc
def ReadsInt (w : World) (k : IntKind) (A : Option Addr) (n : Nat) (xs : List Int) : Prop :=
  xs.length = n ∧ n ≤ 9223372036854775807 ∧ (0 < n → ∃ ad, A = some ad ∧ ∀ j, j < n → w.cell? (ad.add j) = some (.int k (xs.getD j 0)))
theorem ReadsInt.at_ {w : World} {k : IntKind} {A : Option Addr} {n : Nat} {xs : List Int} (h : ReadsInt w k A n xs) (i : Int) (h0 : 0 ≤ i) (h1 : i < n) : ∃ ad, A = some ad ∧ w.cell? (ad.add i.toNat) = some (.int k (rd xs i)) := by
  obtain ⟨ad, e, hc⟩ := h.2.2 (by omega)
  exact ⟨ad, e, hc _ (by omega)⟩
theorem ReadsInt.below {w w1 : World} {k : IntKind} {A : Option Addr} {n : Nat} {xs : List Int} (h : ReadsInt w k A n xs) (hb : Below w.heap.size w w1) : ReadsInt w1 k A n xs :=
  ⟨h.1, h.2.1, fun hn => by
    obtain ⟨ad, e, hc⟩ := h.2.2 hn
    exact ⟨ad, e, fun j hj => pw_cell_below hb (hc j hj)⟩⟩
theorem own_nil (W : World) (base : Nat) (e : TypeId) (size : Nat) : W.ownsRow base e size (.slice none 0 0) 0 [] := ⟨by simp, .inl ⟨rfl, rfl⟩⟩
theorem own_base {w : World} {base : Nat} {e : TypeId} {size n : Nat} {v : Value} {xs : List Value} (h : w.ownsRow base e size v n xs) (k : Nat) (hk : v.ownBlock = some k) : base ≤ k := by
  rcases h.2 with ⟨rfl, _⟩ | ⟨g, cap, cur, rfl, hb, _⟩
  · simp [Value.ownBlock] at hk
  · have : g = k := by simpa [Value.ownBlock] using hk
    omega
theorem own_lt {w : World} {base : Nat} {e : TypeId} {size n : Nat} {v : Value} {xs : List Value} (h : w.ownsRow base e size v n xs) (k : Nat) (hk : v.ownBlock = some k) : k < w.heap.size := by
  rcases h.2 with ⟨rfl, _⟩ | ⟨g, cap, cur, rfl, hb, hh, _⟩
  · simp [Value.ownBlock] at hk
  · have : g = k := by simpa [Value.ownBlock] using hk
    subst this
    exact (Array.getElem?_eq_some_iff.1 hh).1
theorem pw_own_below {w w1 : World} {base : Nat} {e : TypeId} {size n : Nat} {v : Value} {xs : List Value} (h : w.ownsRow base e size v n xs) (hb : Below w.heap.size w w1) : w1.ownsRow base e size v n xs :=
  h.kept (grown_of_below hb none) (by cases v.ownBlock <;> simp)
theorem own_slice {w : World} {base n : Nat} {e : TypeId} {size : Nat} {v : Value} {xs : List Value} (h : w.ownsRow base e size v n xs) : ∃ A c, v = .slice A n c := by
  rcases h.2 with ⟨rfl, rfl⟩ | ⟨g, cap, cur, rfl, _⟩
  · exact ⟨none, 0, rfl⟩
  · exact ⟨_, cap, rfl⟩
theorem own_string {P : Program} {w : World} {base n : Nat} {e' src dst e : TypeId} {v : Value} {xs : List Int} (hs : P.underlying src = some (.slice e)) (he : P.underlying e = some (.int .u8)) (hd : P.underlying dst = some .string)
    (h : w.ownsRow base e' 1 v n (nums .u8 xs)) : (convert src dst v).run P w = .ok (.string (strOfNums xs)) w := by
  have hl : xs.length = n := by have := h.1; simp [nums] at this; exact this
  rcases h.2 with ⟨rfl, rfl⟩ | ⟨g, cap, cur, rfl, _⟩
  · obtain rfl : xs = [] := List.eq_nil_of_length_eq_zero hl
    exact run_convert_bytes_nil w src e hs he 0 0 dst hd
  · refine run_convert_bytes_arg w src e hs he g 0 n cap xs hl (fun i hi => ?_) dst hd
    have hc := h.cells (g := g) rfl i (.int .u8 (xs.getD i 0)) (by simp [nums, List.getElem?_eq_getElem (show i < xs.length by omega), List.getD_eq_getElem?_getD])
    have ha : (⟨g, 0, none⟩ : Addr).add i = ⟨g, 0 + i, none⟩ := by unfold Addr.add; split <;> simp_all
    rwa [ha] at hc
section
variable {P : Program} {ops : Array Oper} {rest : List Oper} {o : Oper} {a : Act} {Q : Exit → Act → World → Prop}
end
section
variable {P : Program}
end
section
variable {P : Program} {ops : Array Oper} {rest : List Oper} {o : Oper} {a : Act} {Q : Exit → Act → World → Prop}
end
def bytesOf (s : ByteArray) : List Int := s.data.toList.map fun b => (b.toNat : Int)
theorem ReadsInt.take_ {w : World} {k : IntKind} {A : Option Addr} {n : Nat} {xs : List Int} (h : ReadsInt w k A n xs) (i : Nat) (hi : i ≤ n) : ReadsInt w k A i (xs.take i) := by
  refine ⟨by rw [List.length_take, h.1]; omega, by have := h.2.1; omega, fun hp => ?_⟩
  obtain ⟨ad, e, hc⟩ := h.2.2 (by omega)
  refine ⟨ad, e, fun j hj => ?_⟩
  rw [hc j (by omega)]
  simp [List.getD_eq_getElem?_getD, hj]
theorem ReadsInt.drop_ {w : World} {k : IntKind} {A : Option Addr} {n c : Nat} {xs : List Int} (h : ReadsInt w k A n xs) (i : Nat) (hi : i ≤ n) (hc : n ≤ c) : ReadsInt w k (if c = i then A else A.map (·.add i)) (n - i) (xs.drop i) := by
  refine ⟨by rw [List.length_drop, h.1], by have := h.2.1; omega, fun hp => ?_⟩
  obtain ⟨ad, rfl, hcell⟩ := h.2.2 (by omega)
  rw [if_neg (by omega)]
  refine ⟨ad.add i, rfl, fun j hj => ?_⟩
  have ha : (ad.add i).add j = ad.add (i + j) := by
    unfold Addr.add
    by_cases h1 : i = 0 <;> by_cases h2 : j = 0 <;> simp [h1, h2, Nat.add_assoc]
  rw [ha, hcell (i + j) (by omega)]
  simp [List.getD_eq_getElem?_getD, List.getElem?_drop]
def LeO {α : Type} (a b : Option α) : Prop := ∀ r, a = some r → b = some r
theorem LeO.refl {α : Type} (a : Option α) : LeO a a := fun _ h => h
theorem LeO.none {α : Type} (b : Option α) : LeO Option.none b := fun _ h => by cases h
theorem LeO.trans {α : Type} {a b c : Option α} (h : LeO a b) (k : LeO b c) : LeO a c := fun r hr => k r (h r hr)
theorem LeO.bind {α β : Type} {a a' : Option α} {f f' : α → Option β} (h : LeO a a') (k : ∀ x, LeO (f x) (f' x)) : LeO (a.bind f) (a'.bind f') := by
  intro r hr
  obtain ⟨x, hx, hf⟩ := Option.bind_eq_some_iff.1 hr
  exact Option.bind_eq_some_iff.2 ⟨x, h x hx, k x r hf⟩
theorem LeO.map {α β : Type} {a a' : Option α} (f : α → β) (h : LeO a a') : LeO (a.map f) (a'.map f) := by
  intro r hr
  obtain ⟨x, hx, hf⟩ := Option.map_eq_some_iff.1 hr
  exact Option.map_eq_some_iff.2 ⟨x, h x hx, hf⟩
theorem more_rounds {α : Type} {g : Nat → Option α} (h : ∀ k, LeO (g k) (g (k + 1))) (k : Nat) : ∀ j, LeO (g k) (g (k + j))
  | 0 => LeO.refl _
  | j + 1 => (more_rounds h k j).trans (h (k + j))
theorem at_rounds {α : Type} {g : Nat → Option α} (h : ∀ k, LeO (g k) (g (k + 1))) {k k' : Nat} (hk : k ≤ k') {r : α} (hr : g k = some r) : g k' = some r := by
  have := more_rounds h k (k' - k) r hr
  rwa [Nat.add_sub_cancel' hk] at this
def Reps {α : Type} (R : α → List Value → Prop) (size : Nat) (ps : List α) (cs : List Value) : Prop :=
  cs.length = ps.length * size ∧ ∀ j p, ps[j]? = some p → R p ((cs.drop (j * size)).take size)
theorem Reps.none {α : Type} (R : α → List Value → Prop) (size : Nat) : Reps R size [] [] := ⟨by simp, fun j p h => by simp at h⟩
theorem Reps.snoc {α : Type} {R : α → List Value → Prop} {size : Nat} {ps : List α} {cs c : List Value} {p : α} (h : Reps R size ps cs) (hp : R p c) (hc : c.length = size) : Reps R size (ps ++ [p]) (cs ++ c) := by
  refine ⟨by rw [List.length_append, h.1, hc, List.length_append, List.length_singleton, Nat.add_mul, Nat.one_mul], fun j q hq => ?_⟩
  rcases Nat.lt_or_ge j ps.length with hj | hj
  · rw [List.getElem?_append_left hj] at hq
    have h1 : j * size + size ≤ cs.length := by rw [h.1, ← Nat.succ_mul]; exact Nat.mul_le_mul_right _ hj
    have h2 := h.2 j q hq
    rw [List.drop_append_of_le_length (by omega), List.take_append_of_le_length (by rw [List.length_drop]; omega)]
    exact h2
  · have hj' : j = ps.length := by
      have := (List.getElem?_eq_some_iff.1 hq).1
      rw [List.length_append, List.length_singleton] at this
      omega
    subst hj'
    have hq' : p = q := by simpa using hq
    subst hq'
    rw [← h.1, List.drop_left, ← hc, List.take_length]
    exact hp
theorem Reps.imp_ {α : Type} {R R' : α → List Value → Prop} {size : Nat} {ps : List α} {cs : List Value} (h : Reps R size ps cs) (hR : ∀ p c, R p c → R' p c) : Reps R' size ps cs := ⟨h.1, fun j p hj => hR _ _ (h.2 j p hj)⟩
def ReadsRow {α : Type} (R : α → List Value → Prop) (size : Nat) (w : World) (A : Option Addr) (n : Nat) (ps : List α) : Prop :=
  ps.length = n ∧ n ≤ 9223372036854775807 ∧ (0 < n → ∃ ad, A = some ad ∧ ∀ j p, ps[j]? = some p → ∃ c, c.length = size ∧ R p c ∧ ∀ i u, c[i]? = some u → w.cell? (ad.add (j * size + i)) = some u)
theorem ReadsRow.get_ {α : Type} {R : α → List Value → Prop} {size : Nat} {w : World} {A : Option Addr} {n : Nat} {ps : List α} (h : ReadsRow R size w A n ps) (d : α) (i : Int) (h0 : 0 ≤ i) (h1 : i < n) :
    ∃ ad c, A = some ad ∧ c.length = size ∧ R (ps.getD i.toNat d) c ∧ ∀ j u, c[j]? = some u → w.cell? (ad.add (i.toNat * size + j)) = some u := by
  obtain ⟨ad, e, hc⟩ := h.2.2 (by omega)
  have hl : i.toNat < ps.length := by have := h.1; omega
  obtain ⟨c, hs, hr, hcell⟩ := hc i.toNat _ (List.getElem?_eq_getElem hl)
  refine ⟨ad, c, e, hs, ?_, hcell⟩
  rw [List.getD_eq_getElem?_getD, List.getElem?_eq_getElem hl]
  exact hr
theorem ReadsRow.imp_ {α : Type} {R R' : α → List Value → Prop} {size : Nat} {w w1 : World} {A : Option Addr} {n : Nat} {ps : List α} (h : ReadsRow R size w A n ps) (hb : Below w.heap.size w w1) (hR : ∀ p c, R p c → R' p c) : ReadsRow R' size w1 A n ps :=
  ⟨h.1, h.2.1, fun hn => by
    obtain ⟨ad, e, hc⟩ := h.2.2 hn
    refine ⟨ad, e, fun j p hj => ?_⟩
    obtain ⟨c, hs, hr, hcell⟩ := hc j p hj
    exact ⟨c, hs, hR _ _ hr, fun i u hu => pw_cell_below hb (hcell i u hu)⟩⟩
theorem own_reads_row {α : Type} {R : α → List Value → Prop} {w : World} {base n size : Nat} {e : TypeId} {v : Value} {ps : List α} {cs : List Value} (h : w.ownsRow base e size v n cs) (hR : Reps R size ps cs) (hn : ps.length = n) :
    ∃ A c, v = .slice A n c ∧ ReadsRow R size w A n ps := by
  rcases Nat.eq_zero_or_pos n with h0 | h0
  · rcases h.2 with ⟨rfl, rfl⟩ | ⟨g, cap, cur, rfl, _⟩
    · exact ⟨none, 0, rfl, hn, by omega, fun hp => absurd hp (by omega)⟩
    · exact ⟨_, cap, rfl, hn, by omega, fun hp => absurd hp (by omega)⟩
  · obtain ⟨g, cap, rfl, _, _⟩ := h.form h0
    have hm : n ≤ 9223372036854775807 := by
      rcases h.2 with ⟨_, h1⟩ | ⟨g', cap', cur, he, _, _, h1, h2, _⟩
      · omega
      · simp only [maxLen] at h2
        omega
    refine ⟨_, cap, rfl, hn, hm, fun _ => ⟨_, rfl, fun j p hj => ⟨(cs.drop (j * size)).take size, ?_, hR.2 j p hj, fun i u hu => ?_⟩⟩⟩
    · have hjl := (List.getElem?_eq_some_iff.1 hj).1
      have h1 : j * size + size ≤ cs.length := by rw [hR.1, ← Nat.succ_mul]; exact Nat.mul_le_mul_right _ hjl
      rw [List.length_take, List.length_drop]
      omega
    · refine h.cells (g := g) rfl _ u ?_
      rw [List.getElem?_take] at hu
      split at hu
      · rw [List.getElem?_drop] at hu
        exact hu
      · cases hu
theorem add_field (ad : Addr) (m j : Nat) (hj : 0 < j) : ad.add (m + j) = ⟨(ad.add m).block, (ad.add m).off + j, none⟩ := by
  unfold Addr.add
  by_cases hm : m = 0
  · subst hm
    simp [Nat.ne_of_gt hj]
  · simp [hm, Nat.add_assoc]
section
variable {P : Program} {ops : Array Oper} {rest : List Oper} {o : Oper} {a : Act} {Q : Exit → Act → World → Prop}
theorem print_append_cells {w0 W : World} (base : Nat) (hgd : o.guard = none) (s x : Operand) (t e : TypeId) (z : Value) (size bytes : Nat)
    (ho : o.op = .call { callee := .builtin .append, args := #[s, x], argTypes := #[t, t] })
    (ht : P.underlying t = some (.slice e)) (hinfo : (P.info? e).map (fun i => (i.zero, i.size, i.bytes)) = some (some z, size, bytes)) (hz : z.cells.size = size) (hs0 : 0 < size) (hb0 : 0 < bytes)
    (v : Value) (n : Nat) (xs ys : List Value) (hs : a.eval s = v) (hx : a.eval x = .slice (some ⟨W.heap.size, 0, none⟩) 1 1) (hys : ys.length = size) (h1 : ∀ u ∈ ys, u.oneCell' = true)
    (HO : W.ownsRow base e size v n xs) (HB : Below base w0 W) (hbase : base ≤ W.heap.size) (hl : (n + 1) * bytes ≤ 140737488355328)
    (h : ∀ v1 w1, w1.ownsRow base e size v1 (n + 1) (xs ++ ys) → Below base w0 w1 → W.grownBy w1 v.ownBlock → (v1.ownBlock = v.ownBlock ∨ ∃ b, v1.ownBlock = some b ∧ W.heap.size ≤ b) → wpList P ops Q rest (a.put o.dst v1) w1) :
    wpList P ops Q (o :: rest) a (W.alloc (.cells ys.toArray e)) := by
  obtain ⟨i0, hi, hzz⟩ := Option.map_eq_some_iff.1 hinfo
  simp only [Prod.mk.injEq] at hzz
  obtain ⟨hz0, hz1, hz2⟩ := hzz
  have hlen : n + 1 ≤ 140737488355328 := Nat.le_trans (Nat.le_mul_of_pos_right _ hb0) hl
  refine wpList_append_own_at (W.alloc (.cells ys.toArray e)) hgd s x t ho base e i0 z size bytes ht hi hz0 hz1 hz2 hz hs0 v n xs hs (HO.alloc _) ⟨W.heap.size, 0, none⟩ 1 1 ys hx (by rw [hys]; simp)
    (by simpa using World.news_of_block (cs := ys.toArray) (t := e) (fr := (0, 0)) (heap_alloc_new W (.cells ys.toArray e))) h1 (by simp only [maxLen]; omega) hl (by simp; omega) ?_
  intro v1 w1 hown hg _ hat
  refine h v1 w1 hown ((HB.alloc hbase _).grown hg (by simp; omega) (own_base HO)) (World.grownBy.trans (World.grownBy_alloc W _ _) hg) ?_
  rcases hat with hat | hat
  · exact .inl hat
  · exact .inr ⟨_, hat, by simp⟩
end
theorem own_ne {w : World} {base : Nat} {e t : TypeId} {size n g : Nat} {v : Value} {xs : List Value} {cs : Array Value} (h : w.ownsRow base e size v n xs) (hg : w.heap[g]? = some (.cells cs t (0, 0))) (hne : e ≠ t) : some g ≠ v.ownBlock := by
  rcases h.2 with ⟨rfl, _⟩ | ⟨g', cap, cur, rfl, _, hh, _⟩
  · simp [Value.ownBlock]
  · intro he
    have : g = g' := by simpa [Value.ownBlock] using he
    subst this
    rw [hg] at hh
    injection hh with hh
    injection hh with _ ht
    exact hne ht.symm
theorem blk_lt {w : World} {g : Nat} {o : Obj} (h : w.heap[g]? = some o) : g < w.heap.size := (Array.getElem?_eq_some_iff.1 h).1
def KeepBut (w w' : World) (g : Nat) (row : Option Nat) : Prop := w.heap.size ≤ w'.heap.size ∧ ∀ i, i < w.heap.size → i ≠ g → some i ≠ row → w'.heap[i]? = w.heap[i]?
theorem KeepBut.refl (w : World) (g : Nat) (row : Option Nat) : KeepBut w w g row := ⟨Nat.le_refl _, fun _ _ _ _ => rfl⟩
theorem KeepBut.of_below {w w1 : World} (h : Below w.heap.size w w1) (g : Nat) (row : Option Nat) : KeepBut w w1 g row := ⟨h.size, fun i hi _ _ => h.block i hi⟩
theorem KeepBut.trans {w w1 w2 : World} {g : Nat} {row row1 : Option Nat} (h : KeepBut w w1 g row) (k : KeepBut w1 w2 g row1) (hr : row1 = row ∨ ∃ b, row1 = some b ∧ w.heap.size ≤ b) : KeepBut w w2 g row :=
  ⟨Nat.le_trans h.1 k.1, fun i hi hg hn => by
    refine (k.2 i (Nat.lt_of_lt_of_le hi h.1) hg ?_).trans (h.2 i hi hg hn)
    rcases hr with rfl | ⟨b, rfl, hb⟩
    · exact hn
    · intro e
      injection e with e
      omega⟩
theorem KeepBut.blk {w w1 : World} {g g' : Nat} {row : Option Nat} {o : Obj} (h : KeepBut w w1 g row) (hb : w.heap[g']? = some o) (hg : g' ≠ g) (hr : some g' ≠ row) : w1.heap[g']? = some o := (h.2 g' (blk_lt hb) hg hr).trans hb
theorem KeepBut.own {w w1 : World} {g : Nat} {row : Option Nat} {base : Nat} {e : TypeId} {size n : Nat} {v : Value} {xs : List Value} (h : KeepBut w w1 g row) (ho : w.ownsRow base e size v n xs) (hg : v.ownBlock ≠ some g) (hr : v.ownBlock = none ∨ v.ownBlock ≠ row) : w1.ownsRow base e size v n xs := by
  obtain ⟨h1, h2⟩ := ho
  refine ⟨h1, ?_⟩
  rcases h2 with h2 | ⟨b, cap, cur, rfl, hb, hh, r⟩
  · exact .inl h2
  · refine .inr ⟨b, cap, cur, rfl, hb, h.blk hh ?_ ?_, r⟩
    · intro e
      exact hg (by rw [← e]; rfl)
    · rcases hr with hr | hr
      · simp [Value.ownBlock] at hr
      · exact hr
def Ev {α : Type} (g : Nat → Option α) (r : α) : Prop := ∃ K, ∀ k, K ≤ k → g k = some r
theorem Ev.of {α : Type} {g : Nat → Option α} {r : α} (hg : ∀ k, LeO (g k) (g (k + 1))) {k : Nat} (h : g k = some r) : Ev g r := ⟨k, fun _ hk => at_rounds hg hk h⟩
theorem Ev.bind {α β : Type} {g : Nat → Option α} {f : Nat → α → Option β} {a : α} {r : β} (h : Ev g a) (k : Ev (fun n => f n a) r) : Ev (fun n => (g n).bind (f n)) r := by
  obtain ⟨K, h⟩ := h
  obtain ⟨K', k⟩ := k
  refine ⟨max K K', fun n hn => ?_⟩
  have h1 := h n (by omega)
  have h2 := k n (by omega)
  simp only [h1, Option.bind_some]
  exact h2
theorem Ev.step {α : Type} {g f : Nat → Option α} {r : α} (h : ∀ k, g (k + 1) = f k) (k : Ev f r) : Ev g r := by
  obtain ⟨K, k⟩ := k
  refine ⟨K + 1, fun n hn => ?_⟩
  obtain ⟨m, rfl⟩ : ∃ m, n = m + 1 := ⟨n - 1, by omega⟩
  rw [h]
  exact k m (by omega)
theorem Ev.congr {α : Type} {g f : Nat → Option α} {r : α} (h : ∀ k, g k = f k) (k : Ev f r) : Ev g r := by
  obtain ⟨K, k⟩ := k
  exact ⟨K, fun n hn => (h n).trans (k n hn)⟩
section
variable {P : Program} {ops : Array Oper} {o : Oper} {a : Act} {Q : Exit → Act → World → Prop} {K : Act → World → Prop}
theorem step_append_cells {w0 W : World} (base : Nat) (hw : Region.wanted o (yielded ops a.tmps) = true) (s x : Operand) (t e : TypeId) (z : Value) (size bytes : Nat)
    (ho : o.op = .call { callee := .builtin .append, args := #[s, x], argTypes := #[t, t] })
    (ht : P.underlying t = some (.slice e)) (hinfo : (P.info? e).map (fun i => (i.zero, i.size, i.bytes)) = some (some z, size, bytes)) (hz : z.cells.size = size) (hs0 : 0 < size) (hb0 : 0 < bytes)
    (v : Value) (n : Nat) (xs ys : List Value) (hs : a.eval s = v) (hx : a.eval x = .slice (some ⟨W.heap.size, 0, none⟩) 1 1) (hys : ys.length = size) (h1 : ∀ u ∈ ys, u.oneCell' = true)
    (HO : W.ownsRow base e size v n xs) (HB : Below base w0 W) (hbase : base ≤ W.heap.size) (hl : (n + 1) * bytes ≤ 140737488355328)
    (h : ∀ v1 w1, w1.ownsRow base e size v1 (n + 1) (xs ++ ys) → Below base w0 w1 → W.grownBy w1 v.ownBlock → (v1.ownBlock = v.ownBlock ∨ ∃ b, v1.ownBlock = some b ∧ W.heap.size ≤ b) → K (a.put o.dst v1) w1) :
    if Region.wanted o (yielded ops a.tmps) = true then Oper.wp P o a (W.alloc (.cells ys.toArray e)) K Q else K (a.put o.dst undef) (W.alloc (.cells ys.toArray e)) := by
  obtain ⟨i0, hi, hzz⟩ := Option.map_eq_some_iff.1 hinfo
  simp only [Prod.mk.injEq] at hzz
  obtain ⟨hz0, hz1, hz2⟩ := hzz
  have hlen : n + 1 ≤ 140737488355328 := Nat.le_trans (Nat.le_mul_of_pos_right _ hb0) hl
  rw [if_pos hw]
  obtain ⟨v1, w1, hr, hown, hg, _, hat⟩ := run_append_own_at (P := P) (W.alloc (.cells ys.toArray e)) base t o.type e i0 z size bytes ht hi hz0 hz1 hz2 hz hs0 v n xs (HO.alloc _) ⟨W.heap.size, 0, none⟩ 1 1 ys (by rw [hys]; simp)
    (by simpa using World.news_of_block (cs := ys.toArray) (t := e) (fr := (0, 0)) (heap_alloc_new W (.cells ys.toArray e))) h1 (by simp only [maxLen]; omega) hl (by simp; omega)
  unfold Oper.wp execOp
  simp only [ho, resolve, invoke, builtin, Sem.run_bind, Sem.run_pure, Result.andThen_ok, List.map_toArray, List.map_cons, List.map_nil, hs, hx, hr]
  refine h v1 w1 hown ((HB.alloc hbase _).grown hg (by simp; omega) (own_base HO)) (World.grownBy.trans (World.grownBy_alloc W _ _) hg) ?_
  rcases hat with hat | hat
  · exact .inl hat
  · exact .inr ⟨_, hat, by simp⟩
end
theorem own_weaken {w : World} {base base' : Nat} {e : TypeId} {size n : Nat} {v : Value} {xs : List Value} (h : w.ownsRow base e size v n xs) (hb : base' ≤ base) : w.ownsRow base' e size v n xs := by
  obtain ⟨h1, h2⟩ := h
  refine ⟨h1, ?_⟩
  rcases h2 with h2 | ⟨g, cap, cur, rfl, hg, r⟩
  · exact .inl h2
  · exact .inr ⟨g, cap, cur, rfl, Nat.le_trans hb hg, r⟩
section
variable {α : Type} {enc : α → Value} {d : α}
def encs (enc : α → Value) (xs : List α) : List Value := xs.map enc
def rdOf (d : α) (xs : List α) (i : Int) : α := xs.getD i.toNat d
theorem encs_length (xs : List α) : (encs enc xs).length = xs.length := by simp [encs]
def ReadsOf (enc : α → Value) (d : α) (w : World) (A : Option Addr) (n : Nat) (xs : List α) : Prop :=
  xs.length = n ∧ n ≤ 9223372036854775807 ∧ (0 < n → ∃ ad, A = some ad ∧ ∀ j, j < n → w.cell? (ad.add j) = some (enc (xs.getD j d)))
theorem ReadsOf.at_ {w : World} {A : Option Addr} {n : Nat} {xs : List α} (h : ReadsOf enc d w A n xs) (i : Int) (h0 : 0 ≤ i) (h1 : i < n) : ∃ ad, A = some ad ∧ w.cell? (ad.add i.toNat) = some (enc (rdOf d xs i)) := by
  obtain ⟨ad, e, hc⟩ := h.2.2 (by omega)
  exact ⟨ad, e, hc _ (by omega)⟩
theorem ReadsOf.below {w w1 : World} {A : Option Addr} {n : Nat} {xs : List α} (h : ReadsOf enc d w A n xs) (hb : Below w.heap.size w w1) : ReadsOf enc d w1 A n xs :=
  ⟨h.1, h.2.1, fun hn => by
    obtain ⟨ad, e, hc⟩ := h.2.2 hn
    exact ⟨ad, e, fun j hj => pw_cell_below hb (hc j hj)⟩⟩
theorem ReadsOf.take_ {w : World} {A : Option Addr} {n : Nat} {xs : List α} (h : ReadsOf enc d w A n xs) (i : Nat) (hi : i ≤ n) : ReadsOf enc d w A i (xs.take i) := by
  refine ⟨by rw [List.length_take, h.1]; omega, by have := h.2.1; omega, fun hp => ?_⟩
  obtain ⟨ad, e, hc⟩ := h.2.2 (by omega)
  refine ⟨ad, e, fun j hj => ?_⟩
  rw [hc j (by omega)]
  simp [List.getD_eq_getElem?_getD, hj]
theorem ReadsOf.drop_ {w : World} {A : Option Addr} {n c : Nat} {xs : List α} (h : ReadsOf enc d w A n xs) (i : Nat) (hi : i ≤ n) (hc : n ≤ c) : ReadsOf enc d w (if c = i then A else A.map (·.add i)) (n - i) (xs.drop i) := by
  refine ⟨by rw [List.length_drop, h.1], by have := h.2.1; omega, fun hp => ?_⟩
  obtain ⟨ad, rfl, hcell⟩ := h.2.2 (by omega)
  rw [if_neg (by omega)]
  refine ⟨ad.add i, rfl, fun j hj => ?_⟩
  have ha : (ad.add i).add j = ad.add (i + j) := by
    unfold Addr.add
    by_cases h1 : i = 0 <;> by_cases h2 : j = 0 <;> simp [h1, h2, Nat.add_assoc]
  rw [ha, hcell (i + j) (by omega)]
  simp [List.getD_eq_getElem?_getD, List.getElem?_drop]
theorem own_store_of {W : World} {base g n cap : Nat} {e : TypeId} {xs : List α} (h : W.ownsRow base e 1 (.slice (some ⟨g, 0, none⟩) n cap) n (encs enc xs)) (i : Int) (x : α) :
    (W.setCell ⟨g, i.toNat, none⟩ (enc x)).ownsRow base e 1 (.slice (some ⟨g, 0, none⟩) n cap) n (encs enc (xs.set i.toNat x)) ∧ W.grownBy (W.setCell ⟨g, i.toNat, none⟩ (enc x)) (some g) := by
  have hs := h.stored i.toNat (enc x)
  have he : (encs enc xs).set i.toNat (enc x) = encs enc (xs.set i.toNat x) := by simp [encs, List.map_set]
  rwa [he] at hs
end
section
variable {α : Type} {P : Program} {ops : Array Oper} {rest : List Oper} {o : Oper} {a : Act} {Q : Exit → Act → World → Prop}
end
section
variable {P : Program}
end
theorem own_le {w : World} {base n m c size : Nat} {e : TypeId} {A : Option Addr} {xs : List Value} (h : w.ownsRow base e size (.slice A m c) n xs) : m ≤ c := by
  rcases h.2 with ⟨he, _⟩ | ⟨g, cap, cur, he, _, _, hnc, _⟩
  · injection he with _ h2 h3
    omega
  · injection he with _ h2 h3
    omega
def OwnRow {α : Type} (R : α → List Value → Prop) (e : TypeId) (size : Nat) (w : World) (base : Nat) (v : Value) (ps : List α) : Prop :=
  ∃ inner, w.ownsRow base e size v ps.length inner ∧ Reps R size ps inner
section
variable {α : Type} {R R' : α → List Value → Prop} {e : TypeId} {size : Nat} {w w1 : World} {base : Nat} {v : Value} {ps : List α}
theorem OwnRow.none_ (R : α → List Value → Prop) (e : TypeId) (size : Nat) (w : World) (base : Nat) : OwnRow R e size w base (.slice none 0 0) [] := ⟨[], own_nil _ _ _ _, Reps.none _ _⟩
theorem OwnRow.imp_ (h : OwnRow R e size w base v ps) (hR : ∀ p c, R p c → R' p c) : OwnRow R' e size w base v ps := by
  obtain ⟨inner, ho, hr⟩ := h
  exact ⟨inner, ho, hr.imp_ hR⟩
theorem OwnRow.below (h : OwnRow R e size w base v ps) (hb : Below w.heap.size w w1) : OwnRow R e size w1 base v ps := by
  obtain ⟨inner, ho, hr⟩ := h
  exact ⟨inner, pw_own_below ho hb, hr⟩
theorem OwnRow.keep (h : OwnRow R e size w base v ps) {g : Nat} {t : TypeId} {cells : Array Value} (hb : w.heap[g]? = some (.cells cells t (0, 0))) (ht : e ≠ t) (hk : KeepBut w w1 g none) : OwnRow R e size w1 base v ps := by
  obtain ⟨inner, ho, hr⟩ := h
  exact ⟨inner, hk.own ho (Ne.symm (own_ne ho hb ht)) (by cases v.ownBlock <;> simp), hr⟩
theorem OwnRow.lower (h : OwnRow R e size w base v ps) {base' : Nat} (hb : base' ≤ base) : OwnRow R e size w base' v ps := by
  obtain ⟨inner, ho, hr⟩ := h
  exact ⟨inner, own_weaken ho hb, hr⟩
theorem OwnRow.slice_ (h : OwnRow R e size w base v ps) : ∃ A c, v = .slice A ps.length c ∧ ps.length ≤ c := by
  obtain ⟨inner, ho, hr⟩ := h
  obtain ⟨A, c, rfl⟩ := own_slice ho
  exact ⟨A, c, rfl, own_le ho⟩
theorem OwnRow.reads (h : OwnRow R e size w base v ps) : ∃ A c, v = .slice A ps.length c ∧ ps.length ≤ c ∧ ReadsRow R size w A ps.length ps := by
  obtain ⟨inner, ho, hr⟩ := h
  obtain ⟨A, c, rfl, hrow⟩ := own_reads_row ho hr rfl
  exact ⟨A, c, rfl, own_le ho, hrow⟩
end
section
variable {P : Program} {ops : Array Oper} {rest : List Oper} {o : Oper} {a : Act} {Q : Exit → Act → World → Prop} {α : Type} {R : α → List Value → Prop}
theorem OwnRow.append {w0 W : World} (base : Nat) (hgd : o.guard = none) (s x : Operand) (t e : TypeId) (z : Value) (size bytes : Nat)
    (ho : o.op = .call { callee := .builtin .append, args := #[s, x], argTypes := #[t, t] })
    (ht : P.underlying t = some (.slice e)) (hinfo : (P.info? e).map (fun i => (i.zero, i.size, i.bytes)) = some (some z, size, bytes)) (hz : z.cells.size = size) (hs0 : 0 < size) (hb0 : 0 < bytes)
    (v : Value) (ps : List α) (p : α) (cs : List Value) (hs : a.eval s = v) (hx : a.eval x = .slice (some ⟨W.heap.size, 0, none⟩) 1 1) (hp : R p cs) (hcs : cs.length = size) (h1 : ∀ u ∈ cs, u.oneCell' = true)
    (HO : OwnRow R e size W base v ps) (HB : Below base w0 W) (hbase : base ≤ W.heap.size) (hl : (ps.length + 1) * bytes ≤ 140737488355328)
    (h : ∀ v1 w1, OwnRow R e size w1 base v1 (ps ++ [p]) → Below base w0 w1 → W.grownBy w1 v.ownBlock → (v1.ownBlock = v.ownBlock ∨ ∃ b, v1.ownBlock = some b ∧ W.heap.size ≤ b) → wpList P ops Q rest (a.put o.dst v1) w1) :
    wpList P ops Q (o :: rest) a (W.alloc (.cells cs.toArray e)) := by
  obtain ⟨inner, hown, hr⟩ := HO
  refine print_append_cells base hgd s x t e z size bytes ho ht hinfo hz hs0 hb0 v ps.length inner cs hs hx hcs h1 hown HB hbase hl ?_
  intro v1 w1 hown1 hb1 hg1 hat1
  exact h v1 w1 ⟨inner ++ cs, by rw [List.length_append, List.length_singleton]; exact hown1, hr.snoc hp hcs⟩ hb1 hg1 hat1
end
section
variable {P : Program} {ops : Array Oper} {o : Oper} {a : Act} {Q : Exit → Act → World → Prop} {K : Act → World → Prop} {α : Type} {R : α → List Value → Prop}
end
section
variable {α : Type} {P : Program}
theorem print_mid_of (enc : α → Value) (d : α) (t e : TypeId) (kl kh : IntKind) {i : TypeInfo} (ht : P.underlying t = some (.slice e)) (hi : P.info? e = some i) (hsz : i.size = 1) (A : Option Addr) (c : Nat) (xs : List α) (a b : Int) (h0 : 0 ≤ a) (h1 : a ≤ b) (hm : b ≤ xs.length) (hc : xs.length ≤ c) :
    ∃ A' : Option Addr, (∀ W : World, (Instr.slice t (.slice A xs.length c) (some (.int kl a)) (some (.int kh b)) none).run P W = .ok (.slice A' ((xs.take b.toNat).drop a.toNat).length (c - a.toNat)) W) ∧
      (∀ w : World, ReadsOf enc d w A xs.length xs → ReadsOf enc d w A' ((xs.take b.toNat).drop a.toNat).length ((xs.take b.toNat).drop a.toNat)) ∧ ((xs.take b.toNat).drop a.toNat).length ≤ c - a.toNat := by
  have hlt : (xs.take b.toNat).length = b.toNat := by rw [List.length_take]; omega
  have hl : ((xs.take b.toNat).drop a.toNat).length = b.toNat - a.toNat := by rw [List.length_drop, hlt]
  refine ⟨if c = a.toNat then A else A.map (·.add a.toNat), fun W => ?_, fun w h => ?_, by rw [hl]; omega⟩
  · have hel : P.elem t = e := by simp [Program.elem, ht]
    have hu : P.underlying t = some (.slice (P.elem t)) := by rw [hel]; exact ht
    rw [run_slice_lh W t A xs.length c hu kl kh a b h0 h1 (by omega), hel, hl]
    simp [sizeOf, typeInfo, hi, hsz, sliced, Result.andThen]
  · have h2 := (h.take_ b.toNat (by omega)).drop_ (c := c) a.toNat (by omega) (by omega)
    rw [hl]
    exact h2
end
section
variable {P : Program} {ops : Array Oper} {rest : List Oper} {o : Oper} {a : Act} {Q : Exit → Act → World → Prop}
end
structure Kd (α : Type) where
  sz : Nat
  E : List Nat
  K : World → α → List Value → Prop
  M : World → Nat → (Nat → Prop) → α → List Value → Prop
  K_len : ∀ {w x cs}, K w x cs → cs.length = sz
  K_one : ∀ {w x cs}, K w x cs → ∀ u ∈ cs, u.oneCell' = true
  K_below : ∀ {w w1 : World} {x cs}, Below w.heap.size w w1 → K w x cs → K w1 x cs
  K_of_M : ∀ {w base ok x cs}, M w base ok x cs → K w x cs
  M_mono : ∀ {w base ok ok' x cs}, (∀ k, ok k → ok' k) → M w base ok x cs → M w base ok' x cs
  M_bound : ∀ {w : World} {base ok x cs}, M w base ok x cs → M w base (fun k => ok k ∧ base ≤ k ∧ k < w.heap.size ∧ ∃ q, q ∈ E ∧ ∃ cells, w.heap[k]? = some (.cells cells q (0, 0))) x cs
  M_move : ∀ {w w1 : World} {base ok x cs}, (∀ k, ok k → w1.heap[k]? = w.heap[k]?) → M w base ok x cs → M w1 base ok x cs
  M_lower : ∀ {w base base' ok x cs}, base' ≤ base → M w base ok x cs → M w base' ok x cs
theorem own_move {w w1 : World} {base : Nat} {e : TypeId} {size n : Nat} {v : Value} {xs : List Value} (h : w.ownsRow base e size v n xs) (hm : ∀ k, v.ownBlock = some k → w1.heap[k]? = w.heap[k]?) : w1.ownsRow base e size v n xs := by
  obtain ⟨h1, h2⟩ := h
  refine ⟨h1, ?_⟩
  rcases h2 with h2 | ⟨g, cap, cur, rfl, hg, hh, r⟩
  · exact .inl h2
  · exact .inr ⟨g, cap, cur, rfl, hg, (hm g (by simp [Value.ownBlock])).trans hh, r⟩
theorem own_typed {w : World} {base : Nat} {e : TypeId} {size n : Nat} {v : Value} {xs : List Value} (h : w.ownsRow base e size v n xs) (k : Nat) (hk : v.ownBlock = some k) : ∃ cells, w.heap[k]? = some (.cells cells e (0, 0)) := by
  rcases h.2 with ⟨rfl, _⟩ | ⟨g, cap, cur, rfl, hg, hh, r⟩
  · simp [Value.ownBlock] at hk
  · have : g = k := by simpa [Value.ownBlock] using hk
    subst this
    exact ⟨cur, hh⟩
namespace Kd
def C {α : Type} (d : Kd α) (w : World) (A : Option Addr) (n : Nat) (xs : List α) : Prop := ReadsRow (d.K w) d.sz w A n xs
def R {α : Type} (d : Kd α) (e : Nat) (w : World) (base : Nat) (ok : Nat → Prop) (v : Value) (xs : List α) : Prop :=
  (∀ k, v.ownBlock = some k → ok k) ∧ OwnRow (d.M w base (fun k => ok k ∧ some k ≠ v.ownBlock)) e d.sz w base v xs
section
variable {α : Type} {d : Kd α} {e : Nat} {w w1 : World} {base : Nat} {ok ok' : Nat → Prop} {v : Value} {xs : List α}
theorem C_below {A : Option Addr} {n : Nat} (h : d.C w A n xs) (hb : Below w.heap.size w w1) : d.C w1 A n xs := ReadsRow.imp_ h hb (fun _ _ hp => d.K_below hb hp)
theorem R_nil (d : Kd α) (e : Nat) (w : World) (base : Nat) (ok : Nat → Prop) : d.R e w base ok (.slice none 0 0) [] := ⟨fun k hk => by simp [Value.ownBlock] at hk, OwnRow.none_ _ _ _ _ _⟩
theorem R_mono (h : d.R e w base ok v xs) (hok : ∀ k, ok k → ok' k) : d.R e w base ok' v xs := ⟨fun k hk => hok k (h.1 k hk), h.2.imp_ (fun _ _ hp => d.M_mono (fun k hk => ⟨hok k hk.1, hk.2⟩) hp)⟩
theorem R_bound (h : d.R e w base ok v xs) : d.R e w base (fun k => ok k ∧ base ≤ k ∧ k < w.heap.size ∧ ∃ q, q ∈ e :: d.E ∧ ∃ cells, w.heap[k]? = some (.cells cells q (0, 0))) v xs := by
  obtain ⟨h0, inner, ho, hr⟩ := h
  refine ⟨fun k hk => ?_, inner, ho, hr.imp_ (fun _ _ hp => d.M_mono (fun k hk => ?_) (d.M_bound hp))⟩
  · obtain ⟨cells, hc⟩ := own_typed ho k hk
    exact ⟨h0 k hk, own_base ho k hk, own_lt ho k hk, e, List.mem_cons_self, cells, hc⟩
  · obtain ⟨⟨h1, h2⟩, h3, h4, q, hq, hc⟩ := hk
    exact ⟨⟨h1, h3, h4, q, List.mem_cons_of_mem _ hq, hc⟩, h2⟩
theorem R_move (h : d.R e w base ok v xs) (hm : ∀ k, ok k → w1.heap[k]? = w.heap[k]?) : d.R e w1 base ok v xs := by
  obtain ⟨h0, inner, ho, hr⟩ := h
  exact ⟨h0, inner, own_move ho (fun k hk => hm k (h0 k hk)), hr.imp_ (fun _ _ hp => d.M_move (fun k hk => hm k hk.1) hp)⟩
theorem R_lower {base' : Nat} (h : d.R e w base ok v xs) (hb : base' ≤ base) : d.R e w base' ok v xs := by
  obtain ⟨h0, inner, ho, hr⟩ := h
  exact ⟨h0, inner, own_weaken ho hb, hr.imp_ (fun _ _ hp => d.M_lower hb hp)⟩
theorem R_step (h : d.R e w base ok v xs) (hm : ∀ k, ok k → k < w.heap.size → w1.heap[k]? = w.heap[k]?) : d.R e w1 base ok v xs :=
  R_mono (R_move (R_bound h) (fun k hk => hm k hk.1 hk.2.2.1)) (fun _ hk => hk.1)
theorem M_step {x : α} {cs : List Value} (h : d.M w base ok x cs) (hm : ∀ k, ok k → k < w.heap.size → w1.heap[k]? = w.heap[k]?) : d.M w1 base ok x cs :=
  d.M_mono (fun _ hk => hk.1) (d.M_move (fun k hk => hm k hk.1 hk.2.2.1) (d.M_bound h))
theorem R_below (h : d.R e w base ok v xs) (hb : Below w.heap.size w w1) : d.R e w1 base ok v xs := R_step h (fun k _ hk => hb.block k hk)
theorem M_below {x : α} {cs : List Value} (h : d.M w base ok x cs) (hb : Below w.heap.size w w1) : d.M w1 base ok x cs := M_step h (fun k _ hk => hb.block k hk)
theorem R_reads (h : d.R e w base ok v xs) : ∃ A c, v = .slice A xs.length c ∧ xs.length ≤ c ∧ d.C w A xs.length xs := by
  obtain ⟨A, c, he, hl, hr⟩ := OwnRow.reads h.2
  exact ⟨A, c, he, hl, hr.imp_ (Below.refl _ _) (fun _ _ hp => d.K_of_M hp)⟩
theorem R_slice (h : d.R e w base ok v xs) : ∃ A c, v = .slice A xs.length c := by
  obtain ⟨A, c, he, _⟩ := R_reads h
  exact ⟨A, c, he⟩
end
def scalar {α : Type} (enc : α → Value) (h1 : ∀ x, (enc x).oneCell' = true) : Kd α where
  sz := 1
  E := []
  K := fun _ x cs => cs = [enc x]
  M := fun _ _ _ x cs => cs = [enc x]
  K_len := fun h => by rw [h]; rfl
  K_one := fun h u hu => by
    rw [h] at hu
    rw [List.mem_singleton.1 hu]
    exact h1 _
  K_below := fun _ h => h
  K_of_M := fun h => h
  M_mono := fun _ h => h
  M_bound := fun h => h
  M_move := fun _ h => h
  M_lower := fun _ h => h
def int (k : IntKind) : Kd Int := scalar (Value.int k) (fun _ => rfl)
def bool : Kd Bool := scalar Value.bool (fun _ => rfl)
def string : Kd ByteArray := scalar Value.string (fun _ => rfl)
def slice {α : Type} (e : Nat) (d : Kd α) : Kd (List α) where
  sz := 1
  E := e :: d.E
  K := fun w xs cs => ∃ A c, cs = [.slice A xs.length c] ∧ xs.length ≤ c ∧ d.C w A xs.length xs
  M := fun w base ok xs cs => ∃ v, cs = [v] ∧ d.R e w base ok v xs
  K_len := by
    rintro w x cs ⟨A, c, rfl, _⟩
    rfl
  K_one := by
    rintro w x cs ⟨A, c, rfl, _⟩ u hu
    rw [List.mem_singleton.1 hu]
    rfl
  K_below := by
    rintro w w1 x cs hb ⟨A, c, rfl, hl, hr⟩
    exact ⟨A, c, rfl, hl, C_below hr hb⟩
  K_of_M := by
    rintro w base ok x cs ⟨v, rfl, h⟩
    obtain ⟨A, c, rfl, hl, hr⟩ := R_reads h
    exact ⟨A, c, rfl, hl, hr⟩
  M_mono := by
    rintro w base ok ok' x cs hok ⟨v, rfl, h⟩
    exact ⟨v, rfl, R_mono h hok⟩
  M_bound := by
    rintro w base ok x cs ⟨v, rfl, h⟩
    exact ⟨v, rfl, R_bound h⟩
  M_move := by
    rintro w w1 base ok x cs hm ⟨v, rfl, h⟩
    exact ⟨v, rfl, R_move h hm⟩
  M_lower := by
    rintro w base base' ok x cs hb ⟨v, rfl, h⟩
    exact ⟨v, rfl, R_lower h hb⟩
def pair {α β : Type} (a : Kd α) (b : Kd β) : Kd (α × β) where
  sz := a.sz + b.sz
  E := a.E ++ b.E
  K := fun w x cs => ∃ c0 c1, cs = c0 ++ c1 ∧ a.K w x.1 c0 ∧ b.K w x.2 c1
  M := fun w base ok x cs => ∃ c0 c1, cs = c0 ++ c1 ∧ a.M w base ok x.1 c0 ∧ b.M w base ok x.2 c1
  K_len := by
    rintro w x cs ⟨c0, c1, rfl, h0, h1⟩
    rw [List.length_append, a.K_len h0, b.K_len h1]
  K_one := by
    rintro w x cs ⟨c0, c1, rfl, h0, h1⟩ u hu
    rcases List.mem_append.1 hu with hu | hu
    · exact a.K_one h0 u hu
    · exact b.K_one h1 u hu
  K_below := by
    rintro w w1 x cs hb ⟨c0, c1, rfl, h0, h1⟩
    exact ⟨c0, c1, rfl, a.K_below hb h0, b.K_below hb h1⟩
  K_of_M := by
    rintro w base ok x cs ⟨c0, c1, rfl, h0, h1⟩
    exact ⟨c0, c1, rfl, a.K_of_M h0, b.K_of_M h1⟩
  M_mono := by
    rintro w base ok ok' x cs hok ⟨c0, c1, rfl, h0, h1⟩
    exact ⟨c0, c1, rfl, a.M_mono hok h0, b.M_mono hok h1⟩
  M_bound := by
    rintro w base ok x cs ⟨c0, c1, rfl, h0, h1⟩
    refine ⟨c0, c1, rfl, a.M_mono ?_ (a.M_bound h0), b.M_mono ?_ (b.M_bound h1)⟩
    · rintro k ⟨h2, h3, h4, q, hq, hc⟩
      exact ⟨h2, h3, h4, q, List.mem_append_left _ hq, hc⟩
    · rintro k ⟨h2, h3, h4, q, hq, hc⟩
      exact ⟨h2, h3, h4, q, List.mem_append_right _ hq, hc⟩
  M_move := by
    rintro w w1 base ok x cs hm ⟨c0, c1, rfl, h0, h1⟩
    exact ⟨c0, c1, rfl, a.M_move hm h0, b.M_move hm h1⟩
  M_lower := by
    rintro w base base' ok x cs hb ⟨c0, c1, rfl, h0, h1⟩
    exact ⟨c0, c1, rfl, a.M_lower hb h0, b.M_lower hb h1⟩
def iso {α β : Type} (d : Kd α) (f : β → α) : Kd β where
  sz := d.sz
  E := d.E
  K := fun w x cs => d.K w (f x) cs
  M := fun w base ok x cs => d.M w base ok (f x) cs
  K_len := d.K_len
  K_one := d.K_one
  K_below := d.K_below
  K_of_M := d.K_of_M
  M_mono := d.M_mono
  M_bound := d.M_bound
  M_move := d.M_move
  M_lower := d.M_lower
def bot {α : Type} (sz : Nat) (E : List Nat) : Kd α where
  sz := sz
  E := E
  K := fun _ _ _ => False
  M := fun _ _ _ _ _ => False
  K_len := fun h => h.elim
  K_one := fun h => h.elim
  K_below := fun _ h => h
  K_of_M := fun h => h
  M_mono := fun _ h => h
  M_bound := fun h => h
  M_move := fun _ h => h
  M_lower := fun _ h => h
def upto {α : Type} (F : Kd α → Kd α) (sz : Nat) (E : List Nat) : Nat → Kd α
  | 0 => bot sz E
  | n + 1 => F (upto F sz E n)
theorem C_get {α : Type} {d : Kd α} {w : World} {A : Option Addr} {n : Nat} {xs : List α} (h : d.C w A n xs) (z : α) (i : Int) (h0 : 0 ≤ i) (h1 : i < n) :
    ∃ ad c, A = some ad ∧ c.length = d.sz ∧ d.K w (xs.getD i.toNat z) c ∧ ∀ j u, c[j]? = some u → w.cell? (ad.add (i.toNat * d.sz + j)) = some u := ReadsRow.get_ h z i h0 h1
theorem R_appended {α : Type} {d : Kd α} {e base : Nat} {ok okp : Nat → Prop} {W w1 : World} {v v1 : Value} {xs : List α} {p : α} {inner cs : List Value} (h0 : ∀ k, v.ownBlock = some k → ok k) (hr : Reps (d.M W base (fun k => ok k ∧ some k ≠ v.ownBlock)) d.sz xs inner) (hp : d.M W base okp p cs) (hokp : ∀ k, okp k → ok k ∧ some k ≠ v.ownBlock) (hfresh : ∀ k, W.heap.size ≤ k → ok k)
    (hown : w1.ownsRow base e d.sz v1 (xs.length + 1) (inner ++ cs)) (hg : W.grownBy w1 v.ownBlock) (hat : v1.ownBlock = v.ownBlock ∨ ∃ b, v1.ownBlock = some b ∧ W.heap.size ≤ b) : d.R e w1 base ok v1 (xs ++ [p]) := by
  have hne : ∀ k, some k ≠ v.ownBlock → k < W.heap.size → some k ≠ v1.ownBlock := by
    intro k hk hlt
    rcases hat with hat | ⟨b, hb, hle⟩
    · rw [hat]; exact hk
    · rw [hb]
      intro he
      injection he with he
      omega
  have step : ∀ {q : α} {c : List Value} {o : Nat → Prop}, d.M W base o q c → (∀ k, o k → ok k ∧ some k ≠ v.ownBlock) → d.M w1 base (fun k => ok k ∧ some k ≠ v1.ownBlock) q c := by
    intro q c o hq ho
    have h1 := d.M_move (w1 := w1) (fun k hk => hg.block k hk.2.2.1 (ho k hk.1).2) (d.M_bound hq)
    exact d.M_mono (fun k hk => ⟨(ho k hk.1).1, hne k (ho k hk.1).2 hk.2.2.1⟩) h1
  refine ⟨fun k hk => ?_, inner ++ cs, by rw [List.length_append, List.length_singleton]; exact hown, ?_⟩
  · rcases hat with hat | ⟨b, hb, hle⟩
    · exact h0 k (hat ▸ hk)
    · rw [hb] at hk
      injection hk with hk
      exact hfresh k (by omega)
  · exact (hr.imp_ (fun _ _ hq => step hq (fun _ hk => hk))).snoc (step hp hokp) (d.K_len (d.K_of_M hp))
section
variable {P : Program} {ops : Array Oper} {rest : List Oper} {o : Oper} {a : Act} {Q : Exit → Act → World → Prop} {α : Type}
theorem R_append (d : Kd α) {w0 W : World} (base : Nat) (hgd : o.guard = none) (s x : Operand) (t e : TypeId) (z : Value) (bytes : Nat)
    (ho : o.op = .call { callee := .builtin .append, args := #[s, x], argTypes := #[t, t] })
    (ht : P.underlying t = some (.slice e)) (hinfo : (P.info? e).map (fun i => (i.zero, i.size, i.bytes)) = some (some z, d.sz, bytes)) (hz : z.cells.size = d.sz) (hs0 : 0 < d.sz) (hb0 : 0 < bytes)
    (v : Value) (xs : List α) (p : α) (cs : List Value) (ok okp : Nat → Prop) (hs : a.eval s = v) (hx : a.eval x = .slice (some ⟨W.heap.size, 0, none⟩) 1 1) (hp : d.M W base okp p cs) (hokp : ∀ k, okp k → ok k ∧ some k ≠ v.ownBlock) (hfresh : ∀ k, W.heap.size ≤ k → ok k)
    (HO : d.R e W base ok v xs) (HB : Below base w0 W) (hbase : base ≤ W.heap.size) (hl : (xs.length + 1) * bytes ≤ 140737488355328)
    (h : ∀ v1 w1, d.R e w1 base ok v1 (xs ++ [p]) → Below base w0 w1 → W.grownBy w1 v.ownBlock → (v1.ownBlock = v.ownBlock ∨ ∃ b, v1.ownBlock = some b ∧ W.heap.size ≤ b) → wpList P ops Q rest (a.put o.dst v1) w1) :
    wpList P ops Q (o :: rest) a (W.alloc (.cells cs.toArray e)) := by
  obtain ⟨h0, inner, hown, hr⟩ := HO
  refine print_append_cells base hgd s x t e z d.sz bytes ho ht hinfo hz hs0 hb0 v xs.length inner cs hs hx (d.K_len (d.K_of_M hp)) (d.K_one (d.K_of_M hp)) hown HB hbase hl ?_
  intro v1 w1 hown1 hb1 hg1 hat1
  exact h v1 w1 (R_appended h0 hr hp hokp hfresh hown1 hg1 hat1) hb1 hg1 hat1
end
section
variable {P : Program} {ops : Array Oper} {o : Oper} {a : Act} {Q : Exit → Act → World → Prop} {Kc : Act → World → Prop} {α : Type}
end
theorem reps_scalar {α : Type} {enc : α → Value} (xs : List α) : Reps (fun (x : α) (cs : List Value) => cs = [enc x]) 1 xs (encs enc xs) := by
  refine ⟨by simp [encs], fun j p hj => ?_⟩
  obtain ⟨hl, hp⟩ := List.getElem?_eq_some_iff.1 hj
  have hl' : j < (encs enc xs).length := by rw [encs_length]; exact hl
  rw [Nat.mul_one, List.drop_eq_getElem_cons hl']
  simp [encs, hp]
theorem R_of_own {α : Type} {enc : α → Value} {h1 : ∀ x, (enc x).oneCell' = true} {e : Nat} {w : World} {base : Nat} {ok : Nat → Prop} {v : Value} {xs : List α} (ho : w.ownsRow base e 1 v xs.length (encs enc xs)) (hok : ∀ k, v.ownBlock = some k → ok k) : (scalar enc h1).R e w base ok v xs := ⟨hok, encs enc xs, ho, reps_scalar xs⟩
theorem own_of_R {α : Type} {enc : α → Value} {h1 : ∀ x, (enc x).oneCell' = true} {e : Nat} {w : World} {base : Nat} {ok : Nat → Prop} {v : Value} {xs : List α} (h : (scalar enc h1).R e w base ok v xs) : w.ownsRow base e 1 v xs.length (encs enc xs) := by
  obtain ⟨_, inner, ho, hr⟩ := h
  have : inner = encs enc xs := by
    apply List.ext_getElem?
    intro j
    rcases Nat.lt_or_ge j xs.length with hj | hj
    · have h2 := hr.2 j _ (List.getElem?_eq_getElem hj)
      have hl : j < inner.length := by have := hr.1; simp [scalar] at this; omega
      have h3 : (inner.drop (j * 1)).take 1 = [enc xs[j]] := h2
      rw [Nat.mul_one, List.drop_eq_getElem_cons hl] at h3
      have h4 : inner[j] = enc xs[j] := by
        have h5 := congrArg List.head? h3
        rw [List.take_succ_cons] at h5
        exact Option.some.inj h5
      rw [List.getElem?_eq_getElem hl, h4]
      simp [encs, List.getElem?_eq_getElem hj]
    · have h3 : inner.length = xs.length := by have := hr.1; simp [scalar] at this; omega
      rw [List.getElem?_eq_none (by omega), List.getElem?_eq_none (by rw [encs_length]; omega)]
  rw [← this]
  exact ho
theorem C_of_reads {α : Type} {enc : α → Value} {d : α} {h1 : ∀ x, (enc x).oneCell' = true} {w : World} {A : Option Addr} {n : Nat} {xs : List α} (h : ReadsOf enc d w A n xs) : (scalar enc h1).C w A n xs := by
  refine ⟨h.1, h.2.1, fun hn => ?_⟩
  obtain ⟨ad, e, hc⟩ := h.2.2 hn
  refine ⟨ad, e, fun j p hj => ⟨[enc p], rfl, rfl, fun i u hu => ?_⟩⟩
  obtain ⟨hl, hp⟩ := List.getElem?_eq_some_iff.1 hj
  have h2 := hc j (by have := h.1; omega)
  rw [List.getD_eq_getElem?_getD, hj] at h2
  cases i with
  | zero =>
    have : enc p = u := by simpa using hu
    subst this
    simpa [scalar] using h2
  | succ i => simp at hu
theorem reads_of_C {α : Type} {enc : α → Value} {d : α} {h1 : ∀ x, (enc x).oneCell' = true} {w : World} {A : Option Addr} {n : Nat} {xs : List α} (h : (scalar enc h1).C w A n xs) : ReadsOf enc d w A n xs := by
  refine ⟨h.1, h.2.1, fun hn => ?_⟩
  obtain ⟨ad, e, hc⟩ := h.2.2 hn
  refine ⟨ad, e, fun j hj => ?_⟩
  have hl : j < xs.length := by have := h.1; omega
  obtain ⟨c, _, hK, hcell⟩ := hc j _ (List.getElem?_eq_getElem hl)
  have hK' : c = [enc xs[j]] := hK
  subst hK'
  have := hcell 0 _ rfl
  simpa [scalar, List.getD_eq_getElem?_getD, List.getElem?_eq_getElem hl] using this
end Kd
namespace Kd
section
variable {α : Type} {F : Kd α → Kd α} {sz : Nat} {E : List Nat} {hs : ∀ n, (upto F sz E n).sz = sz} {hE : ∀ n q, q ∈ (upto F sz E n).E → q ∈ E}
end
end Kd
namespace Kd
end Kd
namespace Kd
section
variable {α β : Type} {d : Kd α} {d' : Kd β} {e e' : Nat} {w w1 W : World} {base b b' : Nat} {ok ok' okv oku : Nat → Prop} {v u : Value} {xs : List α} {ys : List β}
theorem R_alloc (h : d.R e w base ok v xs) (o : Obj) : d.R e (w.alloc o) base ok v xs := R_below h (below_alloc (Below.refl _ _) o)
theorem R_drew (h : d.R e w base ok v xs) : d.R e w.drew base ok v xs := R_below h (below_drew (Below.refl _ _))
theorem R_drewN (h : d.R e w base ok v xs) (m : Nat) : d.R e (w.drewN m) base ok v xs := R_below h (pw_below_drewN (Below.refl _ _) m)
theorem C_alloc {A : Option Addr} {n : Nat} (h : d.C w A n xs) (o : Obj) : d.C (w.alloc o) A n xs := C_below h (below_alloc (Below.refl _ _) o)
theorem C_drew {A : Option Addr} {n : Nat} (h : d.C w A n xs) : d.C w.drew A n xs := C_below h (below_drew (Below.refl _ _))
theorem C_drewN {A : Option Addr} {n : Nat} (h : d.C w A n xs) (m : Nat) : d.C (w.drewN m) A n xs := C_below h (pw_below_drewN (Below.refl _ _) m)
theorem C_nil (d : Kd α) (w : World) : d.C w none ([] : List α).length [] := ⟨rfl, by simp, fun h => absurd h (Nat.lt_irrefl 0)⟩
end
section
variable {w W : World} {A : Option Addr} {n : Nat}
theorem at_string {xs : List ByteArray} (h : Kd.string.C w A n xs) (i : Int) (h0 : 0 ≤ i) (h1 : i < n) : ∃ ad, A = some ad ∧ w.cell? (ad.add i.toNat) = some (.string (rdOf ByteArray.empty xs i)) :=
  ReadsOf.at_ (reads_of_C (enc := Value.string) (d := ByteArray.empty) (h1 := fun _ => rfl) h) i h0 h1
variable {α : Type} {enc : α → Value} {h1 : ∀ x, (enc x).oneCell' = true} {e base g cap : Nat} {ok : Nat → Prop} {xs : List α}
theorem R_put (h : (scalar enc h1).R e W base ok (.slice (some ⟨g, 0, none⟩) xs.length cap) xs) (i : Int) (x : α) : (scalar enc h1).R e (W.setCell ⟨g, i.toNat, none⟩ (enc x)) base ok (.slice (some ⟨g, 0, none⟩) xs.length cap) (xs.set i.toNat x) ∧ W.grownBy (W.setCell ⟨g, i.toNat, none⟩ (enc x)) (some g) := by
  obtain ⟨ho, hg⟩ := own_store_of (own_of_R h) i x
  exact ⟨R_of_own (by rw [List.length_set]; exact ho) h.1, hg⟩
end
section
variable {P : Program} {ops : Array Oper} {rest : List Oper} {o : Oper} {a : Act} {Q : Exit → Act → World → Prop}
variable {α : Type}
end
end Kd
section
variable {P : Program}
end
def QRow (w : World) (base : Nat) (e : TypeId) (size : Nat) (v : Value) (n : Nat) (xs : List Value) : Prop :=
  xs.length = n * size ∧
  ((n = 0 ∧ ∃ A, v = .slice A 0 0 ∧ ∀ a, A = some a → base ≤ a.block ∧ ∃ cur, w.heap[a.block]? = some (.cells cur e (0, 0))) ∨
   ∃ g off cap cur, v = .slice (some ⟨g, off * size, none⟩) n cap ∧ base ≤ g ∧ w.heap[g]? = some (.cells cur e (0, 0)) ∧ n ≤ cap ∧ off + cap ≤ maxLen ∧ cur.size = (off + cap) * size ∧ (cur.toList.drop (off * size)).take (n * size) = xs)
section
variable {w w1 : World} {base n size : Nat} {e : TypeId} {v : Value} {xs : List Value}
theorem q_of_own (h : w.ownsRow base e size v n xs) : QRow w base e size v n xs := by
  obtain ⟨h1, h2⟩ := h
  refine ⟨h1, ?_⟩
  rcases h2 with ⟨rfl, h0⟩ | ⟨g, cap, cur, rfl, hb, hh, hnc, hcm, hcs, ht⟩
  · exact .inl ⟨h0, none, rfl, fun a ha => by cases ha⟩
  · exact .inr ⟨g, 0, cap, cur, by rw [Nat.zero_mul], hb, hh, hnc, by rw [Nat.zero_add]; exact hcm, by rw [Nat.zero_add]; exact hcs, by rw [Nat.zero_mul, List.drop_zero]; exact ht⟩
end
section
variable {P : Program}
end
namespace Kd
def Q {α : Type} (d : Kd α) (e : Nat) (w : World) (base : Nat) (ok : Nat → Prop) (v : Value) (xs : List α) : Prop :=
  (∀ k, v.ownBlock = some k → ok k) ∧ ∃ inner, QRow w base e d.sz v xs.length inner ∧ Reps (d.M w base (fun k => ok k ∧ some k ≠ v.ownBlock)) d.sz xs inner
section
variable {α : Type} {d : Kd α} {e : Nat} {w w1 W : World} {base : Nat} {ok ok' : Nat → Prop} {v : Value} {xs : List α}
theorem Q_of_R (h : d.R e w base ok v xs) : d.Q e w base ok v xs := by
  obtain ⟨h0, inner, ho, hr⟩ := h
  exact ⟨h0, inner, q_of_own ho, hr⟩
theorem Q_nil (d : Kd α) (e : Nat) (w : World) (base : Nat) (ok : Nat → Prop) : d.Q e w base ok (.slice none 0 0) [] := Q_of_R (R_nil d e w base ok)
end
section
variable {P : Program} {ops : Array Oper} {rest : List Oper} {o : Oper} {a : Act} {Q' : Exit → Act → World → Prop} {Kc : Act → World → Prop} {α : Type}
end
end Kd
namespace Kd
section
variable {α : Type} {d : Kd α} {e e' : Nat} {w w1 W : World} {base : Nat} {ok : Nat → Prop} {u v : Value} {xs : List α}
end
end Kd
namespace Kd
section
variable {α : Type} {d : Kd α} {e base g n cap : Nat} {ok okp : Nat → Prop} {W : World} {xs : List α}
end
end Kd
namespace Kd
section
variable {α : Type} {F : Kd α → Kd α} {sz : Nat} {E : List Nat} {hs : ∀ n, (upto F sz E n).sz = sz} {hE : ∀ n q, q ∈ (upto F sz E n).E → q ∈ E}
end
end Kd
namespace Kd
section
variable {P : Program} {ops : Array Oper} {rest : List Oper} {o : Oper} {a : Act} {Q : Exit → Act → World → Prop} {α : Type}
end
end Kd
namespace Kd
section
variable {P : Program} {ops : Array Oper} {rest : List Oper} {o : Oper} {a : Act} {Q : Exit → Act → World → Prop} {α : Type}
end
end Kd
theorem add_add (a : Addr) (i j : Nat) : (a.add i).add j = a.add (i + j) := by
  unfold Addr.add
  by_cases h1 : i = 0 <;> by_cases h2 : j = 0 <;> simp [h1, h2, Nat.add_assoc]
namespace Kd
section
variable {α : Type} {k : Kd α} {w : World} {A : Option Addr} {xs : List α} {m c : Nat}
theorem C_take (h : k.C w A xs.length xs) (hm : m ≤ xs.length) : k.C w A (xs.take m).length (xs.take m) := by
  have hl : (xs.take m).length = m := by rw [List.length_take]; omega
  refine ⟨rfl, by rw [hl]; have := h.2.1; omega, fun hp => ?_⟩
  obtain ⟨ad, e, hc⟩ := h.2.2 (by omega)
  refine ⟨ad, e, fun j p hj => hc j p ?_⟩
  rw [List.getElem?_take] at hj
  split at hj
  · exact hj
  · cases hj
end
end Kd
section
variable {P : Program}
end
theorem string_of_reads {P : Program} {w : World} {src dst e : TypeId} {A : Option Addr} {n c : Nat} {xs : List Int} (hs : P.underlying src = some (.slice e)) (he : P.underlying e = some (.int .u8)) (hd : P.underlying dst = some .string)
    (h : ReadsInt w .u8 A n xs) : (convert src dst (.slice A n c)).run P w = .ok (.string (strOfNums xs)) w := by
  have hn : xs.length = n := h.1
  rcases A with _ | ad
  · have h0 : n = 0 := by
      rcases Nat.eq_zero_or_pos n with h0 | h0
      · exact h0
      · obtain ⟨ad, h', _⟩ := h.2.2 h0
        cases h'
    subst h0
    obtain rfl : xs = [] := List.eq_nil_of_length_eq_zero hn
    exact run_convert_bytes_nil w src e hs he 0 c dst hd
  · have hl : (loadCells ad n).run P w = .ok (xs.map (Value.int .u8)).toArray w := by
      have := run_loadCells_list (P := P) w ad (xs.map (Value.int .u8)) (fun j v hj => by
        have hjl : j < xs.length := by
          rcases Nat.lt_or_ge j xs.length with h' | h'
          · exact h'
          · rw [List.getElem?_eq_none (by rw [List.length_map]; exact h')] at hj
            cases hj
        obtain ⟨ad', he', hc⟩ := h.2.2 (by omega)
        injection he' with he'
        subst he'
        rw [hc j (by omega)]
        rw [List.getElem?_map, List.getElem?_eq_getElem hjl] at hj
        simp at hj
        subst hj
        simp [List.getD_eq_getElem?_getD, List.getElem?_eq_getElem hjl])
      simpa [hn] using this
    rw [run_convert_bytes_string w src dst e _ n c hs he hd, run_bytesToString w ad n c xs hl, foldl_push_bytes]
    simp [strOfNums, ByteArray.empty, ByteArray.emptyWithCapacity]
    rfl
theorem Kd.C_string {P : Program} {w : World} {src dst e : TypeId} {A : Option Addr} {n c : Nat} {xs : List Int} (hs : P.underlying src = some (.slice e)) (he : P.underlying e = some (.int .u8)) (hd : P.underlying dst = some .string)
    (h : (Kd.int .u8).C w A n xs) : (convert src dst (.slice A n c)).run P w = .ok (.string (strOfNums xs)) w :=
  string_of_reads hs he hd (Kd.reads_of_C (enc := Value.int .u8) (d := (0 : Int)) (h1 := fun _ => rfl) h)
theorem below_size {w W : World} (h : Below w.heap.size w W) : w.heap.size ≤ W.heap.size := h.size
theorem below_step {w W w2 : World} (h : Below w.heap.size w W) (k : Below W.heap.size W w2) : Below w.heap.size w w2 := below_then h h.size k
theorem ReadsInt.nil (W : World) (k : IntKind) : ReadsInt W k none ([] : List Int).length [] := ⟨rfl, by simp, fun h => absurd h (Nat.lt_irrefl 0)⟩
theorem ReadsInt.drewN {W : World} {k : IntKind} {A : Option Addr} {n : Nat} {xs : List Int} (h : ReadsInt W k A n xs) (m : Nat) : ReadsInt (W.drewN m) k A n xs := h
theorem keep_cell {w W : World} {g : Nat} (h : KeepBut w W g none) {a : Addr} {v : Value} (hc : w.cell? a = some v) (hne : a.block ≠ g) : W.cell? a = some v := by
  have := h.2 a.block (World.block_lt_of_cell? w a hc) hne (by simp)
  simpa [World.cell?, this] using hc
theorem add_block (a : Addr) (i : Nat) : (a.add i).block = a.block := by unfold Addr.add; split <;> rfl
theorem ReadsOf.nil {α : Type} (enc : α → Value) (d : α) (W : World) : ReadsOf enc d W none ([] : List α).length [] := ⟨rfl, by simp, fun h => absurd h (Nat.lt_irrefl 0)⟩
theorem ReadsOf.drewN {α : Type} {enc : α → Value} {d : α} {W : World} {A : Option Addr} {n : Nat} {xs : List α} (h : ReadsOf enc d W A n xs) (m : Nat) : ReadsOf enc d (W.drewN m) A n xs := h
theorem ReadsInt.keep {w W : World} {k : IntKind} {A : Option Addr} {n g : Nat} {xs : List Int} (h : ReadsInt w k A n xs) (hk : KeepBut w W g none) (hf : ∀ ad, A = some ad → 0 < n → ad.block ≠ g) : ReadsInt W k A n xs :=
  ⟨h.1, h.2.1, fun hn => by
    obtain ⟨ad, e, hc⟩ := h.2.2 hn
    exact ⟨ad, e, fun j hj => keep_cell hk (hc j hj) (by rw [add_block]; exact hf ad e hn)⟩⟩
theorem ReadsOf.keep {α : Type} {enc : α → Value} {d : α} {w W : World} {A : Option Addr} {n g : Nat} {xs : List α} (h : ReadsOf enc d w A n xs) (hk : KeepBut w W g none) (hf : ∀ ad, A = some ad → 0 < n → ad.block ≠ g) : ReadsOf enc d W A n xs :=
  ⟨h.1, h.2.1, fun hn => by
    obtain ⟨ad, e, hc⟩ := h.2.2 hn
    exact ⟨ad, e, fun j hj => keep_cell hk (hc j hj) (by rw [add_block]; exact hf ad e hn)⟩⟩
theorem below_drew1 {base : Nat} {w W : World} (h : Below base w W) : Below base w W.drew := h.drew
namespace Kd
section
variable {α β : Type} {d : Kd α} {d' : Kd β} {e e' base base' n : Nat} {ok ok' : Nat → Prop} {w W w1 W1 : World} {v u : Value} {xs : List α} {ys : List β} {A : Option Addr} {c : Nat}
end
section
variable {α : Type} {enc : α → Value} {h1 : ∀ x, (enc x).oneCell' = true} {w W : World} {A : Option Addr} {n g : Nat} {xs : List α}
end
end Kd
namespace Kd
section
variable {α : Type} {d : Kd α} {e base g : Nat} {ok : Nat → Prop} {w w1 : World} {v : Value} {xs : List α} {o : Obj}
end
end Kd
section
variable {P : Program} {ops : Array Oper} {rest : List Oper} {o : Oper} {a : Act} {Q : Exit → Act → World → Prop}
end
namespace Kd
section
variable {α : Type} {enc : α → Value} {h1 : ∀ x, (enc x).oneCell' = true} {e base g n cap : Nat} {ok : Nat → Prop} {W : World} {xs : List α}
end
end Kd
section
variable {P : Program} {ops : Array Oper} {rest : List Oper} {o : Oper} {a : Act} {Q : Exit → Act → World → Prop}
end
namespace Kd
section
variable {α : Type} {enc : α → Value} {h1 : ∀ x, (enc x).oneCell' = true} {e base g n cap : Nat} {ok : Nat → Prop} {W : World} {xs : List α}
end
end Kd
section
variable {P : Program} {ops : Array Oper} {rest : List Oper} {o : Oper} {a : Act} {Q : Exit → Act → World → Prop} {W : World}
end
section
variable {P : Program} {ops : Array Oper} {o : Oper} {a : Act} {Q : Exit → Act → World → Prop} {Kc : Act → World → Prop}
theorem event_step {W w1 : World} {v : Value} (hw : Region.wanted o (yielded ops a.tmps) = true) (hrun : (execOp a.eval o).run P W = .ok (.value v) w1) (h : Kc (a.put o.dst v) w1) : if Region.wanted o (yielded ops a.tmps) = true then Oper.wp P o a W Kc Q else Kc (a.put o.dst undef) W := by
  rw [if_pos hw]
  unfold Oper.wp
  rw [hrun]
  exact h
namespace Kd
variable {α : Type}
theorem R_lit_step (d : Kd α) {w0 W : World} (base e : Nat) (hw : Region.wanted o (yielded ops a.tmps) = true) {N : Tmp} (_hd : o.dst = some N) {xs : List α} {inner : List Value} {ok okp : Nat → Prop}
    (hrun : (execOp a.eval o).run P W = .ok (.value (.slice (some ⟨W.heap.size, 0, none⟩) xs.length xs.length)) (W.alloc (.cells inner.toArray e)))
    (hrep : Reps (d.M W base okp) d.sz xs inner) (hok : ∀ k, okp k → ok k) (hfresh : ok W.heap.size) (HB : Below base w0 W) (hbase : base ≤ W.heap.size) (hm : xs.length ≤ 9223372036854775807)
    (h : ∀ v1 w1, d.R e w1 base ok v1 xs → Below base w0 w1 → W.grownBy w1 none → (∃ b, v1.ownBlock = some b ∧ W.heap.size ≤ b) → Kc (a.put o.dst v1) w1) : if Region.wanted o (yielded ops a.tmps) = true then Oper.wp P o a W Kc Q else Kc (a.put o.dst undef) W := by
  refine event_step hw hrun (h _ _ ⟨fun k hk => ?_, inner, ?_, ?_⟩ (HB.alloc hbase _) (World.grownBy_alloc W _ none) ⟨W.heap.size, by simp [Value.ownBlock], Nat.le_refl _⟩)
  · have : W.heap.size = k := by simpa [Value.ownBlock] using hk
    subst this
    exact hfresh
  · have h2 := World.ownsRow_lit (base := base) (e := e) (size := d.sz) W inner.toArray xs.length hbase (by simpa [maxLen] using hm) (by simpa using hrep.1)
    simpa using h2
  · refine hrep.imp_ (fun p c hp => d.M_mono (fun k hk => ⟨hok k hk.1, fun he => ?_⟩) (M_below (d.M_bound hp) (below_alloc (Below.refl _ _) _)))
    have h3 : k = W.heap.size := by simpa [Value.ownBlock] using he
    have := hk.2.2.1
    omega
end Kd
end
section
variable {P : Program} {tmps : Array Value} {w : World}
end
namespace Kd
section
variable {P : Program} {α : Type}
end
section
variable {P : Program} {ops : Array Oper} {rest : List Oper} {o : Oper} {a : Act} {Q : Exit → Act → World → Prop} {Kc : Act → World → Prop} {α : Type}
end
end Kd
end Go.Proofs.YtckfkbmefdmedaaW.PrintWords
namespace Go.Proofs.YtckfkbmefdmedaaW.PrintLast
section
variable {P : Program} {ops : Array Oper} {Q : Exit → Act → World → Prop} {md : Region.Mode} {S : World → Prop} {ds : List Nat}
def Region.reachB (md : Region.Mode) (ops : Array Oper) (i : Nat) : Nat → Nat → Bool
  | 0, _ => false
  | fuel + 1, d => match ops[d]? with
    | some o => o.after.any fun e => Region.binds md e && (e.on == i || Region.reachB md ops i fuel e.on)
    | none => false
def Region.closedB (md : Region.Mode) (ops : Array Oper) (listed : Array Bool) : Bool :=
  (List.range ops.size).all fun j => !listed.getD j false || match ops[j]? with
    | some o => o.after.all fun e => !Region.binds md e || listed.getD e.on false
    | none => true
def Region.lastB (md : Region.Mode) (ops : Array Oper) (listed : Array Bool) (ds : List Nat) (i : Nat) : Bool :=
  ds.all fun d => listed.getD d true || Region.reachB md ops i ops.size d
def ListedClosed (md : Region.Mode) (ops : Array Oper) (listed : Array Bool) : Prop :=
  ∀ j oj, ops[j]? = some oj → listed.getD j false = true → ∀ e ∈ oj.after, Region.binds md e = true → listed.getD e.on false = true
theorem Region.closedB_spec {listed : Array Bool} (h : Region.closedB md ops listed = true) : ListedClosed md ops listed := by
  intro j oj hj hl e he hb
  have hlt : j < ops.size := (Array.getElem?_eq_some_iff.1 hj).1
  have h1 := List.all_eq_true.1 h j (List.mem_range.2 hlt)
  simp only [hl, hj, Bool.not_true, Bool.false_or] at h1
  have h2 := Array.all_eq_true_iff_forall_mem.1 h1 e he
  simpa [hb] using h2
theorem ListedClosed.set {listed : Array Bool} {i : Nat} (h : ListedClosed md ops listed) (hi : i ∈ Region.ready md ops listed) : ListedClosed md ops (listed.setIfInBounds i true) := by
  obtain ⟨_, oi, hoi, hall⟩ := mem_ready.1 hi
  intro j oj hj hl e he hb
  by_cases hij : i = j
  · subst hij
    have : oj = oi := Option.some.inj (hj.symm.trans hoi)
    subst this
    exact getD_set_true (hall e he hb)
  · rw [getD_set_ne false hij] at hl
    exact getD_set_true (h j oj hj hl e he hb)
theorem Region.reach_listed {listed : Array Bool} {i : Nat} (hc : ListedClosed md ops listed) : ∀ (fuel d : Nat), Region.reachB md ops i fuel d = true → listed.getD d false = true → listed.getD i false = true
  | 0, _, h, _ => by simp [Region.reachB] at h
  | fuel + 1, d, h, hl => by
    unfold Region.reachB at h
    cases ho : ops[d]? with
    | none => rw [ho] at h; simp at h
    | some o =>
      rw [ho] at h
      obtain ⟨e, he, h1⟩ := Array.any_eq_true'.1 h
      simp only [Bool.and_eq_true, Bool.or_eq_true, beq_iff_eq] at h1
      have hle := hc d o ho hl e he h1.1
      rcases h1.2 with h2 | h2
      · rw [← h2]; exact hle
      · exact Region.reach_listed hc fuel e.on h2 hle
theorem Region.reach_not_ready {listed : Array Bool} {i d fuel : Nat} (hc : ListedClosed md ops listed) (hr : Region.reachB md ops i fuel d = true) (hun : listed.getD i true = false) : d ∉ Region.ready md ops listed := by
  intro hd
  obtain ⟨_, o, ho, hall⟩ := mem_ready.1 hd
  have hi : listed.getD i false = true := by
    cases fuel with
    | zero => simp [Region.reachB] at hr
    | succ n =>
      unfold Region.reachB at hr
      rw [ho] at hr
      obtain ⟨e, he, h1⟩ := Array.any_eq_true'.1 hr
      simp only [Bool.and_eq_true, Bool.or_eq_true, beq_iff_eq] at h1
      have hle := hall e he h1.1
      rcases h1.2 with h2 | h2
      · rw [← h2]; exact hle
      · exact Region.reach_listed hc n e.on h2 hle
  rcases Nat.lt_or_ge i listed.size with h' | h'
  · simp [h'] at hun hi
    rw [hun] at hi
    cases hi
  · simp [Array.getElem?_eq_none h'] at hun
def wpAnyLast (P : Program) (md : Region.Mode) (ops : Array Oper) (Q : Exit → Act → World → Prop) (S : World → Prop) (ds : List Nat) : Nat → Array Bool → Act → World → Prop
  | 0, listed, a, w => Region.ready md ops listed = [] ∧ Q .normal a w
  | fuel + 1, listed, a, w =>
    (Region.ready md ops listed = [] → Q .normal a w) ∧
    ∀ i ∈ Region.ready md ops listed, wpOp P ops Q i (fun a' w' => (i ∉ ds → S w → S w') ∧ wpAnyLast P md ops Q S ds fuel (listed.setIfInBounds i true) a' w') a w
theorem wpAny_of_last : ∀ (fuel : Nat) (listed : Array Bool) (a : Act) (w : World), wpAnyLast P md ops Q S ds fuel listed a w → wpAny P md ops Q fuel listed a w
  | 0, _, _, _, h => h
  | fuel + 1, _, _, _, h => ⟨h.1, fun i hi => wpOp_mono (fun a' w' h' => wpAny_of_last fuel _ a' w' h'.2) (h.2 i hi)⟩
theorem wpAnyLast_first {i : Nat} {oi : Oper} {v : Value} (hi : ops[i]? = some oi) (hsel : ∀ (j : Nat) (o : Oper) cs b, ops[j]? = some o → o.op ≠ .select cs b)
    (hQ : ∀ c a w, Q (.panic c) (a.put oi.dst v) w → Q (.panic c) a w) (n : Nat) :
    ∀ (fuel : Nat) (listed : Array Bool) (a : Act) (w : World),
      (∀ j oj, ops[j]? = some oj → j ≠ i → listed.getD j true = false → (∀ e ∈ oj.after, Region.binds md e = true → e.on ≠ i) → oi.apart ops oj = true) →
      ListedClosed md ops listed → (∀ d ∈ ds, listed.getD d true = false → Region.reachB md ops i n d = true) →
      i ∈ Region.ready md ops listed → YieldsIf P ops S oi v a → S w →
      wpAnyLast P md ops Q S ds fuel (listed.setIfInBounds i true) (a.put oi.dst v) w → wpAnyLast P md ops Q S ds (fuel + 1) listed a w := by
  intro fuel
  induction fuel with
  | zero =>
    intro listed a w _ _ _ hr hy hS H
    refine ⟨fun h => (by rw [h] at hr; cases hr), fun j hj => ?_⟩
    by_cases hji : j = i
    · subst hji; exact hy.wpOp hi hS ⟨fun _ h => h, H⟩
    · have := ready_mono hj hji
      rw [H.1] at this
      cases this
  | succ fuel ih =>
    intro listed a w hfree hc hd hr hy hS H
    refine ⟨fun h => (by rw [h] at hr; cases hr), fun j hj => ?_⟩
    by_cases hji : j = i
    · subst hji; exact hy.wpOp hi hS ⟨fun _ h => h, H⟩
    · have h1 := H.2 j (ready_mono hj hji)
      obtain ⟨hjun, oj, hoj, hall⟩ := mem_ready.1 hj
      have hiun := (mem_ready.1 hr).1
      have hnot : ∀ e ∈ oj.after, Region.binds md e = true → e.on ≠ i := fun e he hb heq => by
        have h1 := hall e he hb
        rw [heq] at h1
        rcases Nat.lt_or_ge i listed.size with h' | h'
        · simp [h'] at hiun h1; rw [hiun] at h1; cases h1
        · simp [Array.getElem?_eq_none h'] at h1
      have hjd : j ∉ ds := fun hm => Region.reach_not_ready hc (hd j hm hjun) hiun hj
      have h2 := wpOp_putIf hoj (hfree j oj hoj hji hjun hnot) (fun cs b => hsel i oi cs b hi) (fun cs b => hsel j oj cs b hoj) hQ hy h1
      have hfree' : ∀ k ok, ops[k]? = some ok → k ≠ i → (listed.setIfInBounds j true).getD k true = false →
          (∀ e ∈ ok.after, Region.binds md e = true → e.on ≠ i) → oi.apart ops ok = true := fun k ok hk hki hun hno => by
        refine hfree k ok hk hki ?_ hno
        by_cases hjk : j = k
        · subst hjk; exact hjun
        · rw [getD_set_ne true hjk] at hun; exact hun
      have hd' : ∀ d ∈ ds, (listed.setIfInBounds j true).getD d true = false → Region.reachB md ops i n d = true := fun d hm hun => by
        refine hd d hm ?_
        by_cases hjk : j = d
        · subst hjk; exact hjun
        · rw [getD_set_ne true hjk] at hun; exact hun
      refine wpOp_mono (fun a' w' h3 => ⟨h3.2.1, ih (listed.setIfInBounds j true) a' w' hfree' (hc.set hj) hd' (ready_mono hr (Ne.symm hji)) h3.1 (h3.2.1 hjd hS) ?_⟩) h2
      rw [Array.setIfInBounds_comm _ _ hji]
      exact h3.2.2
theorem wpAnyLast_any {i : Nat} {oi : Oper} {v : Value} (hi : ops[i]? = some oi) (hsel : ∀ (j : Nat) (o : Oper) cs b, ops[j]? = some o → o.op ≠ .select cs b)
    (hQ : ∀ c a w, Q (.panic c) (a.put oi.dst v) w → Q (.panic c) a w) :
    ∀ (fuel : Nat) (listed : Array Bool) (a : Act) (w : World),
      (∀ j oj, ops[j]? = some oj → j ≠ i → listed.getD j true = false → (∀ e ∈ oj.after, Region.binds md e = true → e.on ≠ i) → oi.apart ops oj = true) →
      i ∈ Region.ready md ops listed → Yields P ops oi v a →
      wpAnyLast P md ops Q S ds fuel (listed.setIfInBounds i true) (a.put oi.dst v) w → wpAnyLast P md ops Q S ds (fuel + 1) listed a w := by
  intro fuel
  induction fuel with
  | zero =>
    intro listed a w _ hr hy H
    refine ⟨fun h => (by rw [h] at hr; cases hr), fun j hj => ?_⟩
    by_cases hji : j = i
    · subst hji; exact (hy.yieldsIf (S := fun _ => True)).wpOp hi trivial ⟨fun _ h => h, H⟩
    · have := ready_mono hj hji
      rw [H.1] at this
      cases this
  | succ fuel ih =>
    intro listed a w hfree hr hy H
    refine ⟨fun h => (by rw [h] at hr; cases hr), fun j hj => ?_⟩
    by_cases hji : j = i
    · subst hji; exact (hy.yieldsIf (S := fun _ => True)).wpOp hi trivial ⟨fun _ h => h, H⟩
    · have h1 := H.2 j (ready_mono hj hji)
      obtain ⟨hjun, oj, hoj, hall⟩ := mem_ready.1 hj
      have hiun := (mem_ready.1 hr).1
      have hnot : ∀ e ∈ oj.after, Region.binds md e = true → e.on ≠ i := fun e he hb heq => by
        have h1 := hall e he hb
        rw [heq] at h1
        rcases Nat.lt_or_ge i listed.size with h' | h'
        · simp [h'] at hiun h1; rw [hiun] at h1; cases h1
        · simp [Array.getElem?_eq_none h'] at h1
      have h2 := wpOp_put hoj (hfree j oj hoj hji hjun hnot) (fun cs b => hsel i oi cs b hi) (fun cs b => hsel j oj cs b hoj) hQ hy h1
      have hfree' : ∀ k ok, ops[k]? = some ok → k ≠ i → (listed.setIfInBounds j true).getD k true = false →
          (∀ e ∈ ok.after, Region.binds md e = true → e.on ≠ i) → oi.apart ops ok = true := fun k ok hk hki hun hno => by
        refine hfree k ok hk hki ?_ hno
        by_cases hjk : j = k
        · subst hjk; exact hjun
        · rw [getD_set_ne true hjk] at hun; exact hun
      refine wpOp_mono (fun a' w' h3 => ⟨h3.2.1, ih (listed.setIfInBounds j true) a' w' hfree' (ready_mono hr (Ne.symm hji)) h3.1 ?_⟩) h2
      rw [Array.setIfInBounds_comm _ _ hji]
      exact h3.2.2
theorem wpAnyLast_take {i : Nat} {oi : Oper} {v : Value} {fuel : Nat} {listed : Array Bool} {a : Act} {w : World} (hi : ops[i]? = some oi)
    (hs : Region.noSelect ops = true) (hf : Region.free md ops listed i = true) (hr : (Region.ready md ops listed).contains i = true)
    (hc : Region.closedB md ops listed = true) (hl : Region.lastB md ops listed ds i = true)
    (hQ : ∀ c a w, Q (.panic c) (a.put oi.dst v) w → Q (.panic c) a w) (hy : YieldsIf P ops S oi v a) (hS : S w)
    (h : wpAnyLast P md ops Q S ds fuel (listed.setIfInBounds i true) (a.put oi.dst v) w) : wpAnyLast P md ops Q S ds (fuel + 1) listed a w :=
  wpAnyLast_first hi (Region.noSelect_spec hs) hQ ops.size fuel listed a w (Region.free_spec hi hf) (Region.closedB_spec hc)
    (fun d hm hun => by have := List.all_eq_true.1 hl d hm; rw [hun] at this; simpa using this) (by simpa using hr) hy hS h
theorem wpAnyLast_all {rs : List Nat} {fuel : Nat} {listed : Array Bool} {a : Act} {w : World} (hr : Region.ready md ops listed = rs) (hne : rs ≠ [])
    (h : ∀ i ∈ rs, wpOp P ops Q i (fun a' w' => (i ∉ ds → S w → S w') ∧ wpAnyLast P md ops Q S ds fuel (listed.setIfInBounds i true) a' w') a w) : wpAnyLast P md ops Q S ds (fuel + 1) listed a w :=
  ⟨fun h0 => absurd (hr ▸ h0) hne, hr ▸ h⟩
theorem wpAnyLast_done {listed : Array Bool} {a : Act} {w : World} (hr : Region.ready md ops listed = []) (h : Q .normal a w) :
    ∀ fuel, wpAnyLast P md ops Q S ds fuel listed a w
  | 0 => ⟨hr, h⟩
  | _ + 1 => ⟨fun _ => h, by rw [hr]; simp⟩
theorem wp_region_last {id : Nat} {a : Act} {w : World} (hm : P.follows .mixedOrders = true)
    (h : wpAnyLast P .any ops Q S ds ops.size (Array.replicate ops.size false) a { w with drawn := w.drawn + 1 }) : (Code.region id ops true).wp P Q a w :=
  wp_region_any hm (wpAny_of_last _ _ _ _ h)
end
section
variable {P : Program} {ops : Array Oper} {Q : Exit → Act → World → Prop} {md : Region.Mode} {S : World → Prop} {ds : List Nat}
def AllReadyL (P : Program) (md : Region.Mode) (ops : Array Oper) (Q : Exit → Act → World → Prop) (S : World → Prop) (ds : List Nat) (fuel : Nat) (listed : Array Bool) (a : Act) (w : World) (rs : List Nat) : Prop :=
  ∀ i ∈ rs, wpOp P ops Q i (fun a' w' => (i ∉ ds → S w → S w') ∧ wpAnyLast P md ops Q S ds fuel (listed.setIfInBounds i true) a' w') a w
theorem AllReadyL.nil {fuel : Nat} {listed : Array Bool} {a : Act} {w : World} : AllReadyL P md ops Q S ds fuel listed a w [] := fun _ h => by cases h
theorem AllReadyL.cons {fuel : Nat} {listed : Array Bool} {a : Act} {w : World} {i : Nat} {o : Oper} {rs : List Nat} (ho : ops[i]? = some o) (hd : i ∉ ds)
    (h : ∀ K' : Act → World → Prop, Shut (∀ a w, S w → (S w → wpAnyLast P md ops Q S ds fuel (listed.setIfInBounds i true) a w) → K' a w) → if Region.wanted o (yielded ops a.tmps) = true then Oper.wp P o a w K' Q else K' (a.put o.dst undef) w)
    (hs : AllReadyL P md ops Q S ds fuel listed a w rs) : AllReadyL P md ops Q S ds fuel listed a w (i :: rs) := fun j hj => by
  rcases List.mem_cons.1 hj with rfl | hj
  · exact wpOp_step ho (fun K' hK => h K' (fun a w hS hW => hK a w ⟨fun _ _ => hS, hW hS⟩))
  · exact hs j hj
theorem AllReadyL.cons_last {fuel : Nat} {listed : Array Bool} {a : Act} {w : World} {i : Nat} {o : Oper} {rs : List Nat} (ho : ops[i]? = some o) (hd : i ∈ ds)
    (h : ∀ K' : Act → World → Prop, Shut (∀ a w, wpAnyLast P md ops Q S ds fuel (listed.setIfInBounds i true) a w → K' a w) → if Region.wanted o (yielded ops a.tmps) = true then Oper.wp P o a w K' Q else K' (a.put o.dst undef) w)
    (hs : AllReadyL P md ops Q S ds fuel listed a w rs) : AllReadyL P md ops Q S ds fuel listed a w (i :: rs) := fun j hj => by
  rcases List.mem_cons.1 hj with rfl | hj
  · exact wpOp_step ho (fun K' hK => h K' (fun a w hW => hK a w ⟨fun hn => absurd hd hn, hW⟩))
  · exact hs j hj
theorem wpAnyLast_ready {rs : List Nat} {fuel : Nat} {listed : Array Bool} {a : Act} {w : World} (hr : Region.ready md ops listed = rs) (hne : rs ≠ [])
    (h : AllReadyL P md ops Q S ds fuel listed a w rs) : wpAnyLast P md ops Q S ds (fuel + 1) listed a w := wpAnyLast_all hr hne h
theorem start_ {id n : Nat} {a : Act} {w : World} (l : Array Bool) (hm : P.follows .mixedOrders = true) (hn : ops.size = n) (hl : Array.replicate n false = l) (hS : S w.drew)
    (h : S w.drew → wpAnyLast P .any ops Q S ds n l a w.drew) : (Code.region id ops true).wp P Q a w := by
  subst hn
  subst hl
  exact wp_region_last hm (h hS)
def takeB (md : Region.Mode) (ops : Array Oper) (ds : List Nat) (l l' : Array Bool) (i : Nat) : Bool :=
  Region.noSelect ops && Region.free md ops l i && (Region.ready md ops l).contains i && Region.closedB md ops l && Region.lastB md ops l ds i && (l.setIfInBounds i true == l')
theorem take_ {i : Nat} {N : Option Tmp} {oi : Oper} {v : Value} {fuel : Nat} {l : Array Bool} {a : Act} {w : World} (l' : Array Bool) (hi : ops[i]? = some oi) (hN : oi.dst = N) (hc : takeB md ops ds l l' i = true)
    (hQ : ∀ c a w, Q (.panic c) (a.put oi.dst v) w → Q (.panic c) a w) (hy : YieldsIf P ops S oi v a) (hS : S w) {a' : Act} (ha : a.put N v = a')
    (h : wpAnyLast P md ops Q S ds fuel l' a' w) : wpAnyLast P md ops Q S ds (fuel + 1) l a w := by
  subst ha
  subst hN
  simp only [takeB, Bool.and_eq_true, beq_iff_eq] at hc
  obtain ⟨⟨⟨⟨⟨h1, h2⟩, h3⟩, h4⟩, h5⟩, h6⟩ := hc
  subst h6
  exact wpAnyLast_take hi h1 h2 h3 h4 h5 hQ hy hS h
def anyB (md : Region.Mode) (ops : Array Oper) (l l' : Array Bool) (i : Nat) : Bool :=
  Region.noSelect ops && Region.free md ops l i && (Region.ready md ops l).contains i && (l.setIfInBounds i true == l')
theorem pure_ {i : Nat} {N : Option Tmp} {oi : Oper} {v : Value} {fuel : Nat} {l : Array Bool} {a : Act} {w : World} (l' : Array Bool) (hi : ops[i]? = some oi) (hN : oi.dst = N) (hc : anyB md ops l l' i = true)
    (hQ : ∀ c a w, Q (.panic c) (a.put oi.dst v) w → Q (.panic c) a w) (hy : Yields P ops oi v a) {a' : Act} (ha : a.put N v = a')
    (h : wpAnyLast P md ops Q S ds fuel l' a' w) : wpAnyLast P md ops Q S ds (fuel + 1) l a w := by
  subst ha
  subst hN
  simp only [anyB, Bool.and_eq_true, beq_iff_eq] at hc
  obtain ⟨⟨⟨h1, h2⟩, h3⟩, h6⟩ := hc
  subst h6
  exact wpAnyLast_any hi (Region.noSelect_spec h1) hQ fuel l a w (Region.free_spec hi h2) (by simpa using h3) hy h
def readyB (md : Region.Mode) (ops : Array Oper) (l l' : Array Bool) (i : Nat) : Bool := (Region.ready md ops l == [i]) && (l.setIfInBounds i true == l')
theorem one_ {i : Nat} {N : Option Tmp} {oi : Oper} {fuel : Nat} {l : Array Bool} {a : Act} {w : World} (l' : Array Bool) (hi : ops[i]? = some oi) (hN : oi.dst = N) (hc : readyB md ops l l' i = true) (hd : i ∉ ds)
    (h : ∀ K : Act → World → Prop, Shut (∀ a' w', S w' → (S w' → wpAnyLast P md ops Q S ds fuel l' a' w') → K a' w') → if Region.wanted oi (yielded ops a.tmps) = true then Oper.wp P oi a w K Q else K (a.put N undef) w) :
    wpAnyLast P md ops Q S ds (fuel + 1) l a w := by
  subst hN
  simp only [readyB, Bool.and_eq_true, beq_iff_eq] at hc
  obtain ⟨h1, h2⟩ := hc
  subst h2
  exact wpAnyLast_ready h1 (by simp) (AllReadyL.cons hi hd (fun K hK => h K hK) AllReadyL.nil)
theorem last_ {i : Nat} {N : Option Tmp} {oi : Oper} {fuel : Nat} {l : Array Bool} {a : Act} {w : World} (l' : Array Bool) (hi : ops[i]? = some oi) (hN : oi.dst = N) (hc : readyB md ops l l' i = true) (hd : i ∈ ds)
    (h : ∀ K : Act → World → Prop, Shut (∀ a' w', wpAnyLast P md ops Q S ds fuel l' a' w' → K a' w') → if Region.wanted oi (yielded ops a.tmps) = true then Oper.wp P oi a w K Q else K (a.put N undef) w) :
    wpAnyLast P md ops Q S ds (fuel + 1) l a w := by
  subst hN
  simp only [readyB, Bool.and_eq_true, beq_iff_eq] at hc
  obtain ⟨h1, h2⟩ := hc
  subst h2
  exact wpAnyLast_ready h1 (by simp) (AllReadyL.cons_last hi hd (fun K hK => h K hK) AllReadyL.nil)
theorem done_ {l : Array Bool} {a : Act} {w : World} {n : Nat} (hr : (Region.ready md ops l == []) = true) (h : Q .normal a w) : wpAnyLast P md ops Q S ds n l a w := wpAnyLast_done (by simpa using hr) h n
theorem two_ {i j : Nat} {Ni Nj : Option Tmp} {oi oj : Oper} {fuel : Nat} {l : Array Bool} {a : Act} {w : World} (li lj : Array Bool) (hi : ops[i]? = some oi) (hj : ops[j]? = some oj) (hNi : oi.dst = Ni) (hNj : oj.dst = Nj)
    (hc : (Region.ready md ops l == [i, j] && l.setIfInBounds i true == li && l.setIfInBounds j true == lj) = true) (hdi : i ∉ ds) (hdj : j ∉ ds)
    (h1 : ∀ K : Act → World → Prop, Shut (∀ a' w', S w' → (S w' → wpAnyLast P md ops Q S ds fuel li a' w') → K a' w') → if Region.wanted oi (yielded ops a.tmps) = true then Oper.wp P oi a w K Q else K (a.put Ni undef) w)
    (h2 : ∀ K : Act → World → Prop, Shut (∀ a' w', S w' → (S w' → wpAnyLast P md ops Q S ds fuel lj a' w') → K a' w') → if Region.wanted oj (yielded ops a.tmps) = true then Oper.wp P oj a w K Q else K (a.put Nj undef) w) :
    wpAnyLast P md ops Q S ds (fuel + 1) l a w := by
  subst hNi
  subst hNj
  simp only [Bool.and_eq_true, beq_iff_eq] at hc
  obtain ⟨⟨h3, h4⟩, h5⟩ := hc
  subst h4
  subst h5
  exact wpAnyLast_ready h3 (by simp) (AllReadyL.cons hi hdi (fun K hK => h1 K hK) (AllReadyL.cons hj hdj (fun K hK => h2 K hK) AllReadyL.nil))
def putAll : Act → List (Tmp × Value) → Act
  | a, [] => a
  | a, (n, v) :: r => putAll (a.put (some n) v) r
theorem join_ {σ : Type} {fuel : Nat} {l : Array Bool} {a : Act} {w : World} (fuel' : Nat) (l' : Array Bool) (ns : σ → List (Tmp × Value)) (F : σ → World → Prop)
    (hcont : ∀ s w', F s w' → wpAnyLast P md ops Q S ds fuel' l' (putAll a (ns s)) w')
    (h : (∀ s w', F s w' → wpAnyLast P md ops Q S ds fuel' l' (putAll a (ns s)) w') → wpAnyLast P md ops Q S ds fuel l a w) : wpAnyLast P md ops Q S ds fuel l a w := h hcont
theorem norm_ {fuel : Nat} {l : Array Bool} {a a' : Act} {w : World} (ha : a = a') (h : wpAnyLast P md ops Q S ds fuel l a' w) : wpAnyLast P md ops Q S ds fuel l a w := by
  subst ha
  exact h
theorem call_ {oi : Oper} {N : Option Tmp} {a : Act} {w : World} {K : Act → World → Prop} (f : FuncId) (args : Array Value) (hw : Region.wanted oi (yielded ops a.tmps) = true) (hN : oi.dst = N) (hrun : (execOp a.eval oi).run P w = .ok (.enter f args) w)
    (h : Calls P f args w fun e w' => ∃ v, e = .returned v ∧ K (a.put N v) w') : if Region.wanted oi (yielded ops a.tmps) = true then Oper.wp P oi a w K Q else K (a.put N undef) w := by
  rw [if_pos hw]
  subst hN
  unfold Oper.wp
  rw [hrun, Oper.upon_enter]
  refine h.mono fun e w'' hh => ?_
  obtain ⟨v, rfl, hk⟩ := hh
  exact hk
theorem enters_ {f : FuncId} {fn : Func} (hf : P.funcs[f]? = some fn) (hname : (fn.name == "runtime.NumGoroutine") = false) (hb : fn.body.isSome = true) (args : Array Value) (w : World) : (callFunc f args).run P w = .ok (.enter f args) w := by
  have h1 : fn.name ≠ "runtime.NumGoroutine" := by simpa using hname
  obtain ⟨c, hc⟩ := Option.isSome_iff_exists.1 hb
  simp [callFunc, hf, h1, hc]
theorem goes_ {oi : Oper} {N : Option Tmp} {a : Act} {w : World} {K : Act → World → Prop} {f : FuncId} {fn : Func} {as_ : Array Operand} {ts : Array TypeId} (hf : P.funcs[f]? = some fn) (hname : (fn.name == "runtime.NumGoroutine") = false) (hb : fn.body.isSome = true) (args : Array Value)
    (hw : Region.wanted oi (yielded ops a.tmps) = true) (hN : oi.dst = N) (hop : oi.op = .call { callee := .value (.func f), args := as_, argTypes := ts }) (hargs : as_.map a.eval = args)
    (h : Calls P f args w fun e w' => ∃ v, e = .returned v ∧ K (a.put N v) w') : if Region.wanted oi (yielded ops a.tmps) = true then Oper.wp P oi a w K Q else K (a.put N undef) w := by
  refine call_ f args hw hN ?_ h
  have he := enters_ hf hname hb args w
  unfold execOp
  simp [hop, resolve, Deferred.ofValue, invoke, Act.eval, hargs, he]
theorem goesL_ {rest : List Oper} {oi : Oper} {a : Act} {w : World} (N : Option Tmp) (hd : oi.dst = N) (hg : oi.guard = none) {f : FuncId} {fn : Func} {as_ : Array Operand} {ts : Array TypeId} (hf : P.funcs[f]? = some fn) (hname : (fn.name == "runtime.NumGoroutine") = false) (hb : fn.body.isSome = true) (args : Array Value)
    (hop : oi.op = .call { callee := .value (.func f), args := as_, argTypes := ts }) (hargs : as_.map a.eval = args)
    (h : Calls P f args w fun e w' => ∃ v, e = .returned v ∧ wpList P ops Q rest (a.put N v) w') : wpList P ops Q (oi :: rest) a w := by
  refine wpList_plain hg fun K hK => ?_
  have he := enters_ hf hname hb args w
  have hrun : (execOp a.eval oi).run P w = .ok (.enter f args) w := by
    unfold execOp
    simp [hop, resolve, Deferred.ofValue, invoke, Act.eval, hargs, he]
  unfold Oper.wp
  rw [hrun, Oper.upon_enter]
  refine h.mono fun e w'' hh => ?_
  obtain ⟨v, rfl, hk⟩ := hh
  subst hd
  exact hK _ _ hk
theorem value_ {oi : Oper} {N : Option Tmp} {a : Act} {w w1 : World} {v : Value} {K : Act → World → Prop} (hw : Region.wanted oi (yielded ops a.tmps) = true) (hN : oi.dst = N) (hrun : (execOp a.eval oi).run P w = .ok (.value v) w1)
    (h : K (a.put N v) w1) : if Region.wanted oi (yielded ops a.tmps) = true then Oper.wp P oi a w K Q else K (a.put N undef) w := by
  rw [if_pos hw]
  subst hN
  unfold Oper.wp
  rw [hrun]
  exact h
theorem skip_ {oi : Oper} {a : Act} {w w1 : World} {K : Act → World → Prop} (hw : Region.wanted oi (yielded ops a.tmps) = true) (hN : oi.dst = none) (hrun : (execOp a.eval oi).run P w = .ok .skip w1)
    (h : K a w1) : if Region.wanted oi (yielded ops a.tmps) = true then Oper.wp P oi a w K Q else K (a.put none undef) w := by
  rw [if_pos hw]
  unfold Oper.wp
  rw [hrun]
  show K (a.put oi.dst undef) w1
  rw [hN]
  exact h
theorem i64_w (n : Int) : IntKind.i64.wrap n = Go.RowKit.wrap64 n := by unfold Go.RowKit.wrap64; exact IntKind.wrap_i64 n
theorem i32_w (n : Int) : IntKind.i32.wrap n = Go.RowKit.wrap32 n := by unfold Go.RowKit.wrap32; exact IntKind.wrap_i32 n
end
end Go.Proofs.YtckfkbmefdmedaaW.PrintLast
namespace Go.Proofs.YtckfkbmefdmedaaW.PrintLast
open Go.Proofs.YtckfkbmefdmedaaW.PrintWords (Aside0)
def needsOf (md : Region.Mode) (o : Oper) : List Nat := (o.after.toList.filter (fun e => Region.binds md e)).map (fun e => e.on)
def clashOf (md : Region.Mode) (ops : Array Oper) (i : Nat) (oi : Oper) : List Nat := (List.range ops.size).filter fun j => !(j == i) && match ops[j]? with
  | some oj => !(oj.after.any (fun e => Region.binds md e && e.on == i) || oi.apart ops oj)
  | none => false
def rtab (md : Region.Mode) (ops : Array Oper) : Bool × List (List Nat × List Nat) := (Region.noSelect ops, (List.range ops.size).map fun i => match ops[i]? with
  | some o => (needsOf md o, clashOf md ops i o)
  | none => ([], []))
def readyAt (T : List (List Nat × List Nat)) (l : List Bool) (i : Nat) : Bool := !l.getD i true && match T[i]? with
  | some r => r.1.all (fun j => l.getD j false)
  | none => false
def readyT (T : List (List Nat × List Nat)) (l : List Bool) : List Nat := (List.range T.length).filter (readyAt T l)
def freeT (T : List (List Nat × List Nat)) (l : List Bool) (i : Nat) : Bool := match T[i]? with
  | some r => r.2.all (fun j => l.getD j true)
  | none => false
section
variable {md : Region.Mode} {ops : Array Oper} {T : Bool × List (List Nat × List Nat)} {l l' li lj lk : Array Bool} {ds : List Nat} {i j k : Nat}
theorem gd (l : Array Bool) (j : Nat) (b : Bool) : l.getD j b = l.toList.getD j b := by simp [Array.getD_eq_getD_getElem?, List.getD_eq_getElem?_getD]
theorem needs_all (o : Oper) (p : Nat → Bool) : o.after.all (fun e => !Region.binds md e || p e.on) = (needsOf md o).all p := by
  unfold needsOf
  rw [← Array.all_toList]
  induction o.after.toList with
  | nil => rfl
  | cons e r ih =>
    rw [List.all_cons, ih, List.filter_cons]
    cases h : Region.binds md e <;> simp
theorem rtab_length : (rtab md ops).2.length = ops.size := by simp [rtab]
theorem rtab_some {o : Oper} (h : ops[i]? = some o) : (rtab md ops).2[i]? = some (needsOf md o, clashOf md ops i o) := by
  have hi := (Array.getElem?_eq_some_iff.1 h).1
  unfold rtab
  rw [List.getElem?_map, List.getElem?_range hi, Option.map_some, h]
theorem rtab_none (h : ops[i]? = none) : (rtab md ops).2[i]? = none := by
  have hi : ops.size ≤ i := Array.getElem?_eq_none_iff.1 h
  exact List.getElem?_eq_none (by rw [rtab_length]; exact hi)
theorem readyAt_eq : readyAt (rtab md ops).2 l.toList i = (!l.getD i true && ((ops[i]?).map (·.after.all fun e => !Region.binds md e || l.getD e.on false)).getD false) := by
  unfold readyAt
  rw [gd]
  cases h : ops[i]? with
  | none => rw [rtab_none h]; rfl
  | some o =>
    rw [rtab_some h]
    simp only [Option.map_some, Option.getD_some]
    rw [← needs_all]
    simp only [gd]
theorem ready_eq : Region.ready md ops l = readyT (rtab md ops).2 l.toList := by
  unfold Region.ready readyT
  rw [rtab_length]
  refine List.filter_congr (fun i _ => ?_)
  rw [readyAt_eq]
theorem free_eq : Region.free md ops l i = freeT (rtab md ops).2 l.toList i := by
  unfold Region.free freeT
  cases h : ops[i]? with
  | none => rw [rtab_none h]
  | some oi =>
    rw [rtab_some h]
    simp only [clashOf]
    rw [List.all_filter]
    congr 1
    funext j
    rw [gd]
    cases hj : ops[j]? with
    | none => cases (j == i) <;> cases (l.toList.getD j true) <;> simp
    | some oj =>
      cases (j == i) <;> cases (l.toList.getD j true) <;> cases (oj.after.any (fun e => Region.binds md e && e.on == i) || oi.apart ops oj) <;> simp_all
theorem readyAt_mem (h : readyAt T.2 l.toList i = true) (hT : rtab md ops = T) : (Region.ready md ops l).contains i = true := by
  subst hT
  rw [ready_eq]
  unfold readyT
  rw [List.contains_iff_mem, List.mem_filter, List.mem_range]
  refine ⟨?_, h⟩
  unfold readyAt at h
  rw [Bool.and_eq_true] at h
  cases hq : (rtab md ops).2[i]? with
  | none => rw [hq] at h; simp at h
  | some r => exact (List.getElem?_eq_some_iff.1 hq).1
theorem set_of (h : (l.toList.set i true == l'.toList) = true) : (l.setIfInBounds i true == l') = true := by
  rw [beq_iff_eq] at h ⊢
  apply Array.ext'
  rw [Array.toList_setIfInBounds]
  exact h
def anyT (T : Bool × List (List Nat × List Nat)) (l l' : List Bool) (i : Nat) : Bool := T.1 && freeT T.2 l i && readyAt T.2 l i && (l.set i true == l')
theorem any_of (hT : rtab md ops = T) (h : anyT T l.toList l'.toList i = true) : anyB md ops l l' i = true := by
  simp only [anyT, Bool.and_eq_true] at h
  obtain ⟨⟨⟨h1, h2⟩, h3⟩, h4⟩ := h
  have h5 := readyAt_mem h3 hT
  have h6 := set_of h4
  subst hT
  simp only [anyB, Bool.and_eq_true]
  exact ⟨⟨⟨h1, by rw [free_eq]; exact h2⟩, h5⟩, h6⟩
theorem one_of (hT : rtab md ops = T) (h : (readyT T.2 l.toList == [i] && l.toList.set i true == l'.toList) = true) : readyB md ops l l' i = true := by
  simp only [Bool.and_eq_true] at h
  obtain ⟨h1, h2⟩ := h
  subst hT
  simp only [readyB, Bool.and_eq_true]
  exact ⟨by rw [ready_eq]; exact h1, set_of h2⟩
theorem two_of (hT : rtab md ops = T) (h : (readyT T.2 l.toList == [i, j] && l.toList.set i true == li.toList && l.toList.set j true == lj.toList) = true) : (Region.ready md ops l == [i, j] && l.setIfInBounds i true == li && l.setIfInBounds j true == lj) = true := by
  simp only [Bool.and_eq_true] at h ⊢
  obtain ⟨⟨h1, h2⟩, h3⟩ := h
  subst hT
  exact ⟨⟨by rw [ready_eq]; exact h1, set_of h2⟩, set_of h3⟩
theorem done_of (hT : rtab md ops = T) (h : (readyT T.2 l.toList == []) = true) : (Region.ready md ops l == []) = true := by
  subst hT
  rw [ready_eq]
  exact h
def upM (B : List Nat) (d : Nat) : List Nat → Nat
  | [] => 0
  | n :: r => (2 ^ n ||| (if n < d then B.getD n 0 else 0)) ||| upM B d r
def waitsOk (T : List (List Nat × List Nat)) (B : List Nat) : Bool := (List.range T.length).all fun d => match T[d]? with
  | some r => (B.getD d 0 ||| upM B d r.1) == upM B d r.1
  | none => false
theorem with_tabW {P : Program} {Q : Exit → Act → World → Prop} {S : World → Prop} {n : Nat} {a : Act} {w : World} {B : List Nat} (hT : rtab md ops = T) (hB : waitsOk T.2 B = true) (h : Aside0 (rtab md ops = T) → Aside0 (waitsOk T.2 B = true) → wpAnyLast P md ops Q S ds n l a w) : wpAnyLast P md ops Q S ds n l a w := h ⟨hT⟩ ⟨hB⟩
end
def opsIn : Code → Nat → Option (Array Oper)
  | .region id ops _, k => if id == k then some ops else none
  | .seq a b, k => match opsIn a k with
    | some o => some o
    | none => opsIn b k
  | .cond _ a b, k => match opsIn a k with
    | some o => some o
    | none => opsIn b k
  | .block _ c, k => opsIn c k
  | .loop c, k => opsIn c k
  | .scope c, k => opsIn c k
  | .rangeFunc _ _ a b, k => match opsIn a k with
    | some o => some o
    | none => opsIn b k
  | _, _ => none
def opsOf (f : Func) (k : Nat) : Array Oper := ((f.body.bind fun c => opsIn c k)).getD #[]
end Go.Proofs.YtckfkbmefdmedaaW.PrintLast
namespace Go.Proofs.YtckfkbmefdmedaaW.PrintWords
open Go.RowKit
namespace Kd
def tag {α : Type} (f : Nat → Nat) (d : Kd α) : Kd (α × Nat) where
  sz := d.sz
  E := d.E
  K := fun w x cs => d.K w x.1 cs
  M := fun w base ok x cs => d.M w base (fun k => ok k ∧ f k = x.2) x.1 cs
  K_len := fun h => d.K_len h
  K_one := fun h => d.K_one h
  K_below := fun hb h => d.K_below hb h
  K_of_M := fun h => d.K_of_M h
  M_mono := fun hok h => d.M_mono (fun k hk => ⟨hok k hk.1, hk.2⟩) h
  M_bound := fun h => d.M_mono (fun _ hk => ⟨⟨hk.1.1, hk.2⟩, hk.1.2⟩) (d.M_bound h)
  M_move := fun hm h => d.M_move (fun k hk => hm k hk.1) h
  M_lower := fun hb h => d.M_lower hb h
def raw (sz : Nat) : Kd (List Value) where
  sz := sz
  E := []
  K := fun _ x cs => cs = x ∧ cs.length = sz ∧ ∀ u ∈ cs, u.oneCell' = true
  M := fun _ _ _ x cs => cs = x ∧ cs.length = sz ∧ ∀ u ∈ cs, u.oneCell' = true
  K_len := fun h => h.2.1
  K_one := fun h => h.2.2
  K_below := fun _ h => h
  K_of_M := fun h => h
  M_mono := fun _ h => h
  M_bound := fun h => h
  M_move := fun _ h => h
  M_lower := fun _ h => h
def S {α : Type} (d : Kd α) (e : Nat) (w : World) (base : Nat) (ok : Nat → Prop) (v : Value) (xs : List α) : Prop := ∃ f, (tag f d).R e w base ok v xs.zipIdx
section
variable {α β : Type} {d : Kd α} {d' : Kd β} {e e' : Nat} {w w1 W : World} {base b : Nat} {ok ok' okv oku : Nat → Prop} {u v : Value} {xs : List α} {ys : List β}
theorem S_nil (d : Kd α) (e : Nat) (w : World) (base : Nat) (ok : Nat → Prop) : S d e w base ok (.slice none 0 0) [] := ⟨fun _ => 0, R_nil _ _ _ _ _⟩
end
section
variable {α β : Type} {d : Kd α} {d' : Kd β} {e e' g : Nat} {w w1 W : World} {base b : Nat} {ok ok' okv oku : Nat → Prop} {u v : Value} {xs : List α} {ys : List β}
end
section
variable {P : Program} {ops : Array Oper} {rest : List Oper} {o : Oper} {a : Act} {Q : Exit → Act → World → Prop} {Kc : Act → World → Prop} {α : Type}
end
def gap {α : Type} (f : Nat → Nat) (d : Kd α) (i : Nat) (c : List Value) : Kd (α × Nat) where
  sz := d.sz
  E := d.E
  K := fun w x cs => (x.2 = i → cs = c ∧ cs.length = d.sz ∧ ∀ u ∈ cs, u.oneCell' = true) ∧ (x.2 ≠ i → d.K w x.1 cs)
  M := fun w base ok x cs => (x.2 = i → cs = c ∧ cs.length = d.sz ∧ ∀ u ∈ cs, u.oneCell' = true) ∧ (x.2 ≠ i → d.M w base (fun k => ok k ∧ f k = x.2) x.1 cs)
  K_len := fun {w x cs} h => by
    by_cases hx : x.2 = i
    · exact (h.1 hx).2.1
    · exact d.K_len (h.2 hx)
  K_one := fun {w x cs} h => by
    by_cases hx : x.2 = i
    · exact (h.1 hx).2.2
    · exact d.K_one (h.2 hx)
  K_below := fun hb h => ⟨h.1, fun hx => d.K_below hb (h.2 hx)⟩
  K_of_M := fun h => ⟨h.1, fun hx => d.K_of_M (h.2 hx)⟩
  M_mono := fun hok h => ⟨h.1, fun hx => d.M_mono (fun k hk => ⟨hok k hk.1, hk.2⟩) (h.2 hx)⟩
  M_bound := fun h => ⟨h.1, fun hx => d.M_mono (fun _ hk => ⟨⟨hk.1.1, hk.2⟩, hk.1.2⟩) (d.M_bound (h.2 hx))⟩
  M_move := fun hm h => ⟨h.1, fun hx => d.M_move (fun k hk => hm k hk.1) (h.2 hx)⟩
  M_lower := fun hb h => ⟨h.1, fun hx => d.M_lower hb (h.2 hx)⟩
def H {α : Type} (d : Kd α) (e : Nat) (w : World) (base : Nat) (ok : Nat → Prop) (v : Value) (xs : List α) (i : Int) (oki : Nat → Prop) (c : List Value) : Prop :=
  (∀ k, oki k → ok k) ∧ ∃ f, (gap f d i.toNat c).R e w base (fun k => ok k ∧ ¬ oki k) v xs.zipIdx
section
variable {α β : Type} {d : Kd α} {e e' g n cap : Nat} {w w1 W : World} {base : Nat} {ok ok' oki okp : Nat → Prop} {u v : Value} {xs : List α} {i : Int} {c : List Value}
end
section
variable {P : Program} {ops : Array Oper} {rest : List Oper} {o : Oper} {a : Act} {Q : Exit → Act → World → Prop} {α : Type}
end
end Kd
end Go.Proofs.YtckfkbmefdmedaaW.PrintWords
namespace Go.Proofs.YtckfkbmefdmedaaW.PrintWords
open Go.RowKit
namespace Kd
structure Heap {α : Type} (d : Kd α) : Prop where
  K : ∀ {w w1 : World} {x : α} {cs : List Value}, (∀ k, k < w.heap.size → w1.heap[k]? = w.heap[k]?) → d.K w x cs → d.K w1 x cs
theorem cell_heap {w w1 : World} (hb : ∀ k, k < w.heap.size → w1.heap[k]? = w.heap[k]?) {a : Addr} {v : Value} (h : w.cell? a = some v) : w1.cell? a = some v := by
  have := hb a.block (World.block_lt_of_cell? w a h)
  simpa [World.cell?, this] using h
theorem Heap.C {α : Type} {d : Kd α} (hd : Heap d) {w w1 : World} {A : Option Addr} {n : Nat} {xs : List α} (hb : ∀ k, k < w.heap.size → w1.heap[k]? = w.heap[k]?) (h : d.C w A n xs) : d.C w1 A n xs :=
  ⟨h.1, h.2.1, fun hn => by
    obtain ⟨ad, e, hc⟩ := h.2.2 hn
    refine ⟨ad, e, fun j p hj => ?_⟩
    obtain ⟨c, hs, hr, hcell⟩ := hc j p hj
    exact ⟨c, hs, hd.K hb hr, fun i u hu => cell_heap hb (hcell i u hu)⟩⟩
section
variable {α : Type} {d : Kd α} {e base g n c : Nat} {ok : Nat → Prop} {w w0 W : World} {A : Option Addr} {xs : List α}
end
end Kd
end Go.Proofs.YtckfkbmefdmedaaW.PrintWords
namespace Go.Proofs.YtckfkbmefdmedaaW.PrintWords
open Go.RowKit
def Kept (w W : World) (S : Nat → Prop) : Prop := w.heap.size ≤ W.heap.size ∧ ∀ i, i < w.heap.size → ¬ S i → W.heap[i]? = w.heap[i]?
section
variable {w W W2 : World} {S S2 S' : Nat → Prop}
theorem Kept.refl (w : World) (S : Nat → Prop) : Kept w w S := ⟨Nat.le_refl _, fun _ _ _ => rfl⟩
theorem Kept.of_below (h : Below w.heap.size w W) (S : Nat → Prop) : Kept w W S := ⟨h.size, fun i hi _ => h.block i hi⟩
theorem Kept.mono (h : Kept w W S) (hs : ∀ k, S k → S' k) : Kept w W S' := ⟨h.1, fun i hi hn => h.2 i hi (fun hk => hn (hs i hk))⟩
theorem Kept.then_ (h : Kept w W S) (k : Kept W W2 S2) (hs : ∀ k, S2 k → S k ∨ w.heap.size ≤ k) : Kept w W2 S :=
  ⟨Nat.le_trans h.1 k.1, fun i hi hn => (k.2 i (Nat.lt_of_lt_of_le hi h.1) (fun h2 => (hs i h2).elim hn (fun h3 => by omega))).trans (h.2 i hi hn)⟩
theorem Kept.below (h : Kept w W S) (hb : Below W.heap.size W W2) : Kept w W2 S := h.then_ (Kept.of_below hb (fun _ => False)) (fun _ hk => hk.elim)
theorem Kept.alloc (h : Kept w W S) (o : Obj) : Kept w (W.alloc o) S := h.below (below_alloc (Below.refl _ _) o)
theorem Kept.drew (h : Kept w W S) : Kept w W.drew S := h
theorem Kept.drewN (h : Kept w W S) (m : Nat) : Kept w (W.drewN m) S := h
theorem Kept.setCell (h : Kept w W S) {p : Addr} (hp : S p.block ∨ w.heap.size ≤ p.block) (u : Value) : Kept w (W.setCell p u) S :=
  h.then_ (S2 := fun k => k = p.block) ⟨by simp [World.setCell], fun i _ hn => Below.heap_setCell W p u i hn⟩ (fun k hk => by rw [hk]; exact hp)
theorem Kept.keep {g : Nat} (h : KeepBut w W g none) (k : Kept W W2 S2) (hs : ∀ k, S2 k → w.heap.size ≤ k) : KeepBut w W2 g none :=
  ⟨Nat.le_trans h.1 k.1, fun i hi hg hr => (k.2 i (Nat.lt_of_lt_of_le hi h.1) (fun h2 => by have := hs i h2; omega)).trans (h.2 i hi hg hr)⟩
end
namespace Kd
section
variable {α : Type} {d : Kd α} {e base n c : Nat} {ok oki S S2 : Nat → Prop} {w w0 W W1 W2 : World} {v : Value} {A : Option Addr} {xs : List α} {i : Int} {cs : List Value}
end
end Kd
end Go.Proofs.YtckfkbmefdmedaaW.PrintWords
namespace Go.Proofs.YtckfkbmefdmedaaW.PrintWords
open Go.RowKit
def Foot (P : World → Prop) (W : World) (ok : Nat → Prop) : Prop := ∀ W' : World, (∀ k, ok k → k < W.heap.size → W'.heap[k]? = W.heap[k]?) → P W'
theorem heap_lt {W W1 : World} {k : Nat} (h : W1.heap[k]? = W.heap[k]?) (hlt : k < W.heap.size) : k < W1.heap.size := by
  rw [Array.getElem?_eq_getElem hlt] at h
  exact (Array.getElem?_eq_some_iff.1 h).1
namespace Foot
variable {P Q : World → Prop} {W W1 : World} {ok ok' : Nat → Prop}
theorem mono (h : Foot P W ok) (hok : ∀ k, ok k → ok' k) : Foot P W ok' := fun W' hW => h W' (fun k hk hlt => hW k (hok k hk) hlt)
theorem step (h : Foot P W ok) (hm : ∀ k, ok k → k < W.heap.size → W1.heap[k]? = W.heap[k]?) : Foot P W1 ok := fun W' hW => h W' (fun k hk hlt => (hW k hk (heap_lt (hm k hk hlt) hlt)).trans (hm k hk hlt))
theorem imp (h : Foot P W ok) (hi : ∀ W', P W' → Q W') : Foot Q W ok := fun W' hW => hi W' (h W' hW)
end Foot
namespace Kd
def F {α : Type} (d : Kd α) (W : World) (ok : Nat → Prop) (A : Option Addr) (n : Nat) (xs : List α) : Prop := Foot (fun W => d.C W A n xs) W ok
def FK {α : Type} (d : Kd α) (W : World) (ok : Nat → Prop) (x : α) (c : List Value) : Prop := Foot (fun W => d.K W x c) W ok
section
variable {α β : Type} {d : Kd α} {e base n n' cc g N : Nat} {ok ok' okp S : Nat → Prop} {w w0 w1 W W1 : World} {A A' : Option Addr} {u v v1 : Value} {xs : List α} {xs' : List β} {d' : Kd β} {x : α} {c : List Value}
theorem F_nil (d : Kd α) (W : World) (ok : Nat → Prop) : F d W ok none ([] : List α).length [] := fun W' _ => C_nil d W'
theorem FK_of_M (h : d.M W base ok x c) : FK d W ok x c := fun _ hW => d.K_of_M (M_step h hW)
end
end Kd
end Go.Proofs.YtckfkbmefdmedaaW.PrintWords
namespace Go.Proofs.YtckfkbmefdmedaaW.PrintWords
open Go.RowKit
namespace Kd
def chunks (sz : Nat) (n : Nat) (inner : List Value) : List (List Value) := (List.range n).map fun j => (inner.drop (j * sz)).take sz
theorem chunks_length (sz n : Nat) (inner : List Value) : (chunks sz n inner).length = n := by simp [chunks]
theorem chunks_at {sz n : Nat} {inner : List Value} {j : Nat} (hj : j < n) : (chunks sz n inner)[j]? = some ((inner.drop (j * sz)).take sz) := by simp [chunks, hj]
theorem chunks_get {sz n : Nat} {inner : List Value} {j : Nat} {c : List Value} (h : (chunks sz n inner)[j]? = some c) : c = (inner.drop (j * sz)).take sz := by
  have hj : j < n := by have := (List.getElem?_eq_some_iff.1 h).1; rwa [chunks_length] at this
  rw [chunks_at hj] at h
  injection h with h
  exact h.symm
theorem reps_raw {α : Type} {Rr : α → List Value → Prop} {sz : Nat} {xs : List α} {inner : List Value} (h : Reps Rr sz xs inner) (hR : ∀ x c, Rr x c → c.length = sz ∧ ∀ u ∈ c, u.oneCell' = true) : Reps (fun x cs => cs = x ∧ cs.length = sz ∧ ∀ u ∈ cs, u.oneCell' = true) sz (chunks sz xs.length inner) inner := by
  refine ⟨by rw [chunks_length]; exact h.1, fun j p hj => ?_⟩
  have hjl : j < xs.length := by have := (List.getElem?_eq_some_iff.1 hj).1; rwa [chunks_length] at this
  have hp := chunks_get hj
  exact ⟨hp.symm, hR _ _ (h.2 j _ (List.getElem?_eq_getElem hjl))⟩
section
variable {α : Type} {d : Kd α} {e base n cc g : Nat} {ok ok' okp S : Nat → Prop} {w w1 W W1 : World} {A : Option Addr} {u v v1 : Value} {xs : List α} {x : α} {c : List Value}
def N {α : Type} (d : Kd α) (e : Nat) (w : World) (base : Nat) (ok : Nat → Prop) (v : Value) (xs : List α) : Prop :=
  (∀ k, v.ownBlock = some k → ok k) ∧ ∃ rows : List (List Value), rows.length = xs.length ∧ (raw d.sz).R e w base (fun k => some k = v.ownBlock) v rows ∧ ∀ (j : Nat) (x : α) (c : List Value), xs[j]? = some x → rows[j]? = some c → FK d w (fun k => ok k ∧ some k ≠ v.ownBlock) x c
theorem R_N (h : d.R e w base ok v xs) : N d e w base ok v xs := by
  obtain ⟨h0, inner, ho, hr⟩ := h
  refine ⟨h0, chunks d.sz xs.length inner, chunks_length _ _ _, ⟨fun k hk => hk.symm, inner, by rw [chunks_length]; exact ho, reps_raw hr (fun x c hp => ⟨d.K_len (d.K_of_M hp), d.K_one (d.K_of_M hp)⟩)⟩, fun j x c hx hc => ?_⟩
  rw [chunks_get hc]
  exact FK_of_M (hr.2 j x hx)
theorem N_nil (d : Kd α) (e : Nat) (w : World) (base : Nat) (ok : Nat → Prop) : N d e w base ok (.slice none 0 0) [] := R_N (R_nil _ _ _ _ _)
end
end Kd
end Go.Proofs.YtckfkbmefdmedaaW.PrintWords
namespace Go.Proofs.YtckfkbmefdmedaaW.PrintWords
theorem Reps.one {α : Type} {R : α → List Value → Prop} {ps : List α} {cs : List Value} {p : α} {v : Value} (hp : R p [v]) (h : Reps R 1 ps cs) : Reps R 1 (p :: ps) (v :: cs) := by
  refine ⟨by simp [h.1], fun j q hq => ?_⟩
  cases j with
  | zero =>
    simp only [List.getElem?_cons_zero, Option.some.injEq] at hq
    subst hq
    simpa using hp
  | succ j =>
    simp only [List.getElem?_cons_succ] at hq
    have h1 := h.2 j q hq
    simpa [Nat.mul_one] using h1
theorem Reps.front {α : Type} {R : α → List Value → Prop} {size : Nat} {ps : List α} {cs c all : List Value} {p : α} (hp : R p c) (hc : c.length = size) (h : Reps R size ps cs) (ha : c ++ cs = all) : Reps R size (p :: ps) all := by
  subst ha
  refine ⟨by rw [List.length_append, hc, h.1, List.length_cons, Nat.succ_mul, Nat.add_comm], fun j q hq => ?_⟩
  cases j with
  | zero =>
    simp only [List.getElem?_cons_zero, Option.some.injEq] at hq
    subst hq
    rw [Nat.zero_mul, List.drop_zero, List.take_append_of_le_length (by omega), List.take_of_length_le (by omega)]
    exact hp
  | succ j =>
    simp only [List.getElem?_cons_succ] at hq
    have h1 := h.2 j q hq
    rw [Nat.succ_mul, List.drop_append, List.drop_of_length_le (by rw [hc]; exact Nat.le_add_left _ _), List.nil_append, hc, Nat.add_sub_cancel]
    exact h1
theorem Reps.c2 {α : Type} {R : α → List Value → Prop} {ps : List α} {cs : List Value} {p : α} {va vb : Value} (hp : R p [va, vb]) (h : Reps R 2 ps cs) : Reps R 2 (p :: ps) (va :: vb :: cs) := Reps.front hp rfl h rfl
theorem Reps.c3 {α : Type} {R : α → List Value → Prop} {ps : List α} {cs : List Value} {p : α} {va vb vc : Value} (hp : R p [va, vb, vc]) (h : Reps R 3 ps cs) : Reps R 3 (p :: ps) (va :: vb :: vc :: cs) := Reps.front hp rfl h rfl
theorem Reps.c4 {α : Type} {R : α → List Value → Prop} {ps : List α} {cs : List Value} {p : α} {va vb vc vd : Value} (hp : R p [va, vb, vc, vd]) (h : Reps R 4 ps cs) : Reps R 4 (p :: ps) (va :: vb :: vc :: vd :: cs) := Reps.front hp rfl h rfl
theorem Reps.c5 {α : Type} {R : α → List Value → Prop} {ps : List α} {cs : List Value} {p : α} {va vb vc vd ve : Value} (hp : R p [va, vb, vc, vd, ve]) (h : Reps R 5 ps cs) : Reps R 5 (p :: ps) (va :: vb :: vc :: vd :: ve :: cs) := Reps.front hp rfl h rfl
theorem Reps.c6 {α : Type} {R : α → List Value → Prop} {ps : List α} {cs : List Value} {p : α} {va vb vc vd ve vf : Value} (hp : R p [va, vb, vc, vd, ve, vf]) (h : Reps R 6 ps cs) : Reps R 6 (p :: ps) (va :: vb :: vc :: vd :: ve :: vf :: cs) := Reps.front hp rfl h rfl
theorem Reps.c7 {α : Type} {R : α → List Value → Prop} {ps : List α} {cs : List Value} {p : α} {va vb vc vd ve vf vg : Value} (hp : R p [va, vb, vc, vd, ve, vf, vg]) (h : Reps R 7 ps cs) : Reps R 7 (p :: ps) (va :: vb :: vc :: vd :: ve :: vf :: vg :: cs) := Reps.front hp rfl h rfl
theorem Reps.c8 {α : Type} {R : α → List Value → Prop} {ps : List α} {cs : List Value} {p : α} {va vb vc vd ve vf vg vh : Value} (hp : R p [va, vb, vc, vd, ve, vf, vg, vh]) (h : Reps R 8 ps cs) : Reps R 8 (p :: ps) (va :: vb :: vc :: vd :: ve :: vf :: vg :: vh :: cs) := Reps.front hp rfl h rfl
theorem Reps.c9 {α : Type} {R : α → List Value → Prop} {ps : List α} {cs : List Value} {p : α} {va vb vc vd ve vf vg vh vi : Value} (hp : R p [va, vb, vc, vd, ve, vf, vg, vh, vi]) (h : Reps R 9 ps cs) : Reps R 9 (p :: ps) (va :: vb :: vc :: vd :: ve :: vf :: vg :: vh :: vi :: cs) := Reps.front hp rfl h rfl
theorem Reps.c10 {α : Type} {R : α → List Value → Prop} {ps : List α} {cs : List Value} {p : α} {va vb vc vd ve vf vg vh vi vj : Value} (hp : R p [va, vb, vc, vd, ve, vf, vg, vh, vi, vj]) (h : Reps R 10 ps cs) : Reps R 10 (p :: ps) (va :: vb :: vc :: vd :: ve :: vf :: vg :: vh :: vi :: vj :: cs) := Reps.front hp rfl h rfl
end Go.Proofs.YtckfkbmefdmedaaW.PrintWords
namespace Go.Proofs.YtckfkbmefdmedaaW.PrintMore
open Go.RowKit Go.Proofs.YtckfkbmefdmedaaW.PrintWords
namespace Kd
open Go.Proofs.YtckfkbmefdmedaaW.PrintWords.Kd
end Kd
namespace Kd
open Go.Proofs.YtckfkbmefdmedaaW.PrintWords.Kd
section
variable {α : Type} {d : Kd α} {e base g N : Nat} {ok : Nat → Prop} {W w1 : World} {u v : Value} {xs : List α}
end
end Kd
theorem max2_int (k k' : IntKind) (x y : Int) : Builtin.max2 (.int k x) (.int k' y) = pure (.int k (if x < y then y else x)) := by simp only [Builtin.max2, gt_iff_lt]
theorem min2_int (k k' : IntKind) (x y : Int) : Builtin.min2 (.int k x) (.int k' y) = pure (.int k (if y < x then y else x)) := by simp only [Builtin.min2]
theorem max_two (ats : Array TypeId) (ty : TypeId) (a b : Value) : Builtin.max_ ats ty #[a, b] = (Builtin.max2 a b >>= fun s => pure s) := by simp only [Builtin.max_, List.foldlM_cons, List.foldlM_nil]
theorem min_two (ats : Array TypeId) (ty : TypeId) (a b : Value) : Builtin.min_ ats ty #[a, b] = (Builtin.min2 a b >>= fun s => pure s) := by simp only [Builtin.min_, List.foldlM_cons, List.foldlM_nil]
theorem max_three (ats : Array TypeId) (ty : TypeId) (a b c : Value) : Builtin.max_ ats ty #[a, b, c] = (Builtin.max2 a b >>= fun s => Builtin.max2 s c >>= fun s => pure s) := by simp only [Builtin.max_, List.foldlM_cons, List.foldlM_nil]
theorem min_three (ats : Array TypeId) (ty : TypeId) (a b c : Value) : Builtin.min_ ats ty #[a, b, c] = (Builtin.min2 a b >>= fun s => Builtin.min2 s c >>= fun s => pure s) := by simp only [Builtin.min_, List.foldlM_cons, List.foldlM_nil]
theorem max_four (ats : Array TypeId) (ty : TypeId) (a b c d : Value) : Builtin.max_ ats ty #[a, b, c, d] = (Builtin.max2 a b >>= fun s => Builtin.max2 s c >>= fun s => Builtin.max2 s d >>= fun s => pure s) := by simp only [Builtin.max_, List.foldlM_cons, List.foldlM_nil]
theorem min_four (ats : Array TypeId) (ty : TypeId) (a b c d : Value) : Builtin.min_ ats ty #[a, b, c, d] = (Builtin.min2 a b >>= fun s => Builtin.min2 s c >>= fun s => Builtin.min2 s d >>= fun s => pure s) := by simp only [Builtin.min_, List.foldlM_cons, List.foldlM_nil]
end Go.Proofs.YtckfkbmefdmedaaW.PrintMore
namespace Go.Proofs.YtckfkbmefdmedaaW.PrintWords
open Go.RowKit
section
variable {P : Program} {ops : Array Oper} {rest : List Oper} {o : Oper} {a : Act} {Q : Exit → Act → World → Prop} {W : World}
theorem gate_callee {f : FuncId} {as_ : Array Operand} {ts : Array TypeId} (_ho : o.op = .call { callee := .value (.func f), args := as_, argTypes := ts }) (h : wpList P ops Q (o :: rest) a W) : wpList P ops Q (o :: rest) a W := h
theorem gate_builtin {b : Builtin} {xs : Array Operand} {ts : Array TypeId} (_ho : o.op = .call { callee := .builtin b, args := xs, argTypes := ts }) (h : wpList P ops Q (o :: rest) a W) : wpList P ops Q (o :: rest) a W := h
end
namespace Kd
section
variable {α : Type} {d : Kd α} {e base : Nat} {ok : Nat → Prop} {W w1 : World} {v : Value} {xs : List α}
end
section
variable {α : Type} {d : Kd α} {e base g n cap : Nat} {ok oki okp : Nat → Prop} {W : World} {xs : List α} {i : Int} {c : List Value}
end
section
variable {α : Type} {d : Kd α} {e base b b' g N : Nat} {ok ok1 : Nat → Prop} {W W2 w1 : World} {u v : Value} {xs ys : List α} {S : Nat → Prop}
end
end Kd
end Go.Proofs.YtckfkbmefdmedaaW.PrintWords
namespace Go.Proofs.YtckfkbmefdmedaaW.PrintWords
open Go.RowKit
namespace Kd
def V {α : Type} (d : Kd α) (_e : Nat) (W : World) (_base : Nat) (ok : Nat → Prop) (v : Value) (xs : List α) : Prop := ∃ A c, v = .slice A xs.length c ∧ xs.length ≤ c ∧ F d W ok A xs.length xs
section
variable {α β : Type} {d : Kd α} {e base base' n m c g N' lo hi : Nat} {ok ok' S : Nat → Prop} {w W w1 : World} {A : Option Addr} {ad : Addr} {u v v1 : Value} {xs : List α}
theorem V_nil (d : Kd α) (e : Nat) (W : World) (base : Nat) (ok : Nat → Prop) : V d e W base ok (.slice none 0 0) [] := ⟨none, 0, rfl, Nat.le_refl _, F_nil d W ok⟩
end
end Kd
end Go.Proofs.YtckfkbmefdmedaaW.PrintWords
namespace Go.Proofs.Ytckfkbmefdmedaa.Q
open Go.RowKit Go.Proofs.YtckfkbmefdmedaaW.PrintWords Go.Proofs.YtckfkbmefdmedaaW.PrintLast Go.Proofs.YtckfkbmefdmedaaW.PrintMore
attribute [local go_sem] max2_int min2_int max_two min_two max_three min_three max_four min_four   -- for this text's walks alone
set_option linter.unusedVariables false
set_option linter.unusedSimpArgs false
def errW : Option Int → Value
 | none => .nilIface
 | some c => .iface 0 (.int .i64 c)
theorem errW_none : errW none = .nilIface := rfl
theorem errW_some (c : Int) : errW (some c) = .iface 0 (.int .i64 c) := rfl
theorem info9 : (Try.prog.info? 9).map (fun i => (i.zero, i.size, i.bytes)) = some (some (.string ⟨#[]⟩), 1, 16) := by kernel_rfl
end Go.Proofs.Ytckfkbmefdmedaa.Q
namespace Go.Proofs.Ytckfkbmefdmedaa.Q
open Go.RowKit
set_option linter.unusedVariables false
set_option linter.unusedSimpArgs false
def EvT {α : Type} (f : Nat → Option α) (v : α) : Prop := ∃ m, ∀ k, m ≤ k → f k = some v
section
variable {α β : Type} {f g : Nat → Option α} {v : α} {w : β}
theorem EvT.const (v : α) : EvT (fun _ => some v) v := ⟨0, fun _ _ => rfl⟩
theorem EvT.step (h : ∀ k, f (k + 1) = g k) (hg : EvT g v) : EvT f v := by
  obtain ⟨m, hm⟩ := hg
  refine ⟨m + 1, fun k hk => ?_⟩
  obtain ⟨j, rfl⟩ : ∃ j, k = j + 1 := ⟨k - 1, by omega⟩
  rw [h]; exact hm j (by omega)
theorem EvT.done (h : ∀ k, f (k + 1) = some v) : EvT f v := EvT.step h (EvT.const v)
theorem EvT.congr (h : ∀ k, f k = g k) (hg : EvT g v) : EvT f v := by
  obtain ⟨m, hm⟩ := hg
  exact ⟨m, fun k hk => by rw [h]; exact hm k hk⟩
theorem EvT.bind {F : Nat → α → Option β} (hf : EvT f v) (hF : EvT (fun k => F k v) w) : EvT (fun k => (f k).bind (F k)) w := by
  obtain ⟨m, hm⟩ := hf
  obtain ⟨n, hn⟩ := hF
  refine ⟨m + n, fun k hk => ?_⟩
  show (f k).bind (F k) = _
  rw [hm k (by omega)]; exact hn k (by omega)
theorem EvT.one (h : EvT f v) : ∃ k, f k = some v := by
  obtain ⟨m, hm⟩ := h
  exact ⟨m, hm m (Nat.le_refl _)⟩
end
theorem nx (i : Nat) (h : i < 1000000000000) : wrap64 ((i : Int) + 1) = ((i + 1 : Nat) : Int) := by
  unfold wrap64; omega
end Go.Proofs.Ytckfkbmefdmedaa.Q
namespace Go.Proofs.Ytckfkbmefdmedaa
open Go.RowKit
theorem hidI {p : Prop} (h : p) : Hid p := h
theorem ret_int {k : IntKind} {a b : Int} (h : a = b) : Ending.returned (.int k a) = .returned (.int k b) := by rw [h]
theorem below_step {w W w1 : World} (h : Below w.heap.size w W) (hb : Below W.heap.size W w1) : Below w.heap.size w w1 := h.trans (hb.mono h.size)
theorem below_new {w W : World} (h : Below w.heap.size w W) (o : Obj) : Below w.heap.size w (W.alloc o) := h.alloc h.size o
def Blk (w : World) (b : Nat) (cs : Array Value) (T : TypeId) : Prop := w.heap[b]? = some (.cells cs T (0, 0))
section
variable {w W : World} {b : Nat} {cs : Array Value} {T : TypeId}
theorem Blk.lt (h : Blk w b cs T) : b < w.heap.size := by
  by_cases g : b < w.heap.size
  · exact g
  · unfold Blk at h; rw [Array.getElem?_eq_none (by omega)] at h; cases h
theorem Blk.c (h : Blk w b cs T) : ∀ o, w.cell? ⟨b, o, none⟩ = cs[o]? := fun o => by
  unfold Blk at h; simp [World.cell?, h]
theorem Blk.f (h : Blk w b cs T) : ∀ o, w.frozen? ⟨b, o, none⟩ = false := fun o => by
  unfold Blk at h; simp [World.frozen?, h]
theorem Blk.new' (h : b = w.heap.size) : Blk (w.alloc (.cells cs T)) b cs T := by
  subst h; show (w.heap.push _)[w.heap.size]? = _; simp
theorem Blk.al (h : Blk w b cs T) (o : Obj) : Blk (w.alloc o) b cs T := by
  have := h.lt
  show (w.heap.push _)[b]? = _; rw [Array.getElem?_push, if_neg (by omega)]; exact h
theorem Blk.be (h : Blk W b cs T) (hb : Below W.heap.size W w) : Blk w b cs T := (hb.block b h.lt).trans h
theorem Blk.dr (h : Blk w b cs T) : Blk w.drew b cs T := h
theorem Blk.so (h : Blk w b cs T) {a : Addr} {v : Value} (hne : b ≠ a.block) : Blk (w.setCell a v) b cs T := by
  show (w.setCell a v).heap[b]? = _
  rw [Below.heap_setCell _ _ _ _ hne]; exact h
theorem Blk.of {cs' : Array Value} (h : Blk w b cs T) (e : cs = cs') : Blk w b cs' T := e ▸ h
end
theorem below_drewN {w W : World} (h : Below w.heap.size w W) (n : Nat) : Below w.heap.size w (W.drewN n) := ⟨h.os, h.tape, h.output, h.size, h.block⟩
theorem Blk.st {w : World} {b : Nat} {cs : Array Value} {T : TypeId} (h : Blk w b cs T) (o : Nat) (v : Value) : Blk (w.setCell ⟨b, o, none⟩ v) b (cs.setIfInBounds o v) T := by
  unfold Blk at h ⊢
  simp only [World.setCell, Array.getElem?_modify, if_true, h]
  rfl
theorem Blk.gb {w w1 : World} {b : Nat} {cs : Array Value} {T : TypeId} {r : Option Nat} (h : Blk w b cs T) (hg : w.grownBy w1 r) (hr : some b ≠ r) : Blk w1 b cs T := (hg.block b h.lt hr).trans h
end Go.Proofs.Ytckfkbmefdmedaa
namespace Go.Proofs.Kp
open Go.RowKit Go.Proofs.YtckfkbmefdmedaaW.PrintWords
set_option linter.unusedSimpArgs false
set_option linter.unusedVariables false
def plain {α : Type} (sz : Nat) (l : α → List Value) (hl : ∀ x, (l x).length = sz) (h1 : ∀ x, ∀ u ∈ l x, u.oneCell' = true) : Kd α where
  sz := sz
  E := []
  K := fun _ x cs => cs = l x
  M := fun _ _ _ x cs => cs = l x
  K_len := fun h => by rw [h]; exact hl _
  K_one := fun h u hu => by rw [h] at hu; exact h1 _ u hu
  K_below := fun _ h => h
  K_of_M := fun h => h
  M_mono := fun _ h => h
  M_bound := fun h => h
  M_move := fun _ h => h
  M_lower := fun _ h => h
section
variable {α : Type} {sz : Nat} {l : α → List Value} {hl : ∀ x, (l x).length = sz} {h1 : ∀ x, ∀ u ∈ l x, u.oneCell' = true}
theorem addr_eta {p : Addr} (h : p.spot = none) : p = ⟨p.block, p.off, none⟩ := by cases p; simp at h; subst h; rfl
theorem add_plain' (b o k : Nat) : (⟨b, o, none⟩ : Addr).add k = ⟨b, o + k, none⟩ := by unfold Addr.add; split <;> simp_all
theorem C_open {w : World} {A : Option Addr} {n : Nat} {xs : List α} (h : Kd.C (plain sz l hl h1) w A n xs) (hn : 0 < n) (hs : 0 < sz) :
    ∃ b off, A = some ⟨b, off, none⟩ ∧ ∀ (i : Nat) (hi : i < xs.length) (j : Nat) (v : Value), (l xs[i])[j]? = some v → w.cell? ⟨b, off + i * sz + j, none⟩ = some v := by
  obtain ⟨ad, rfl, hc⟩ := h.2.2 hn
  have hxn : 0 < xs.length := by rw [h.1]; exact hn
  have hsp : ad.spot = none := by
    obtain ⟨c, hcl, hcK, hcc⟩ := hc 0 xs[0] (List.getElem?_eq_getElem hxn)
    have := hcc 0 (c[0]'(by rw [hcl]; exact hs)) (List.getElem?_eq_getElem _)
    simpa [Addr.add] using Rk.spot_none this
  refine ⟨ad.block, ad.off, by rw [← addr_eta hsp], fun i hi j v hj => ?_⟩
  obtain ⟨c, hcl, hcK, hcc⟩ := hc i xs[i] (List.getElem?_eq_getElem hi)
  have e : c = l xs[i] := hcK
  subst e
  have := hcc j v hj
  rw [addr_eta hsp, add_plain'] at this
  rw [Nat.add_assoc]
  exact this
theorem flat_get (hl : ∀ x, (l x).length = sz) {i : Nat} {u : Value} {q : α} (hu : (l q)[i]? = some u) : ∀ (xs : List α) (j : Nat), xs[j]? = some q → (xs.flatMap l)[j * sz + i]? = some u
  | [], j, hj => by simp at hj
  | x :: xs, 0, hj => by
    simp only [List.getElem?_cons_zero, Option.some.injEq] at hj
    subst hj
    have hi : i < (l x).length := (List.getElem?_eq_some_iff.1 hu).1
    simp only [List.flatMap_cons, Nat.zero_mul, Nat.zero_add]
    rw [List.getElem?_append_left hi]
    exact hu
  | x :: xs, j + 1, hj => by
    simp only [List.getElem?_cons_succ] at hj
    have := flat_get hl hu xs j hj
    simp only [List.flatMap_cons]
    rw [List.getElem?_append_right (by rw [hl, Nat.succ_mul]; omega), hl]
    have e : (j + 1) * sz + i - sz = j * sz + i := by rw [Nat.succ_mul]; omega
    rw [e]
    exact this
end
end Go.Proofs.Kp
namespace Go.Proofs.Kq
open Go.RowKit
set_option linter.unusedSimpArgs false
set_option linter.unusedVariables false
theorem block_of_add (a : Addr) (n : Nat) : (a.add n).block = a.block := by unfold Addr.add; split <;> rfl
theorem add_of_add (a : Addr) (i j : Nat) : (a.add i).add j = a.add (i + j) := by
  unfold Addr.add
  by_cases hi : i = 0 <;> by_cases hj : j = 0 <;> simp [hi, hj, Nat.add_assoc]
def Reads (w : World) (B size : Nat) (A : Option Addr) (n : Nat) (xs : List Value) : Prop :=
  xs.length = n * size ∧ (0 < n → ∃ ad, A = some ad ∧ ad.block < B ∧ ∀ j u, xs[j]? = some u → w.cell? (ad.add j) = some u)
section
variable {w w' : World} {B B' size n : Nat} {A : Option Addr} {xs : List Value}
theorem Reads.none_ : Reads w B size A 0 [] := ⟨by simp, fun h => absurd h (by omega)⟩
theorem Reads.at_ {k : Nat} (h : Reads w B 1 A n xs) (hk : k < n) : ∃ ad u, A = some ad ∧ ad.block < B ∧ xs[k]? = some u ∧ w.cell? (ad.add k) = some u := by
  obtain ⟨ad, e, hb, hc⟩ := h.2 (by omega)
  have hl : k < xs.length := by have := h.1; omega
  exact ⟨ad, xs[k], e, hb, List.getElem?_eq_getElem hl, hc k _ (List.getElem?_eq_getElem hl)⟩
theorem Reads.keep (h : Reads w B size A n xs) (hk : ∀ p : Addr, p.block < B → w'.cell? p = w.cell? p) : Reads w' B size A n xs :=
  ⟨h.1, fun hn => by
    obtain ⟨ad, e, hb, hc⟩ := h.2 hn
    exact ⟨ad, e, hb, fun j u hu => (hk _ (by rw [block_of_add]; exact hb)).trans (hc j u hu)⟩⟩
theorem Reads.more (h : Reads w B size A n xs) (hB : B ≤ B') : Reads w B' size A n xs :=
  ⟨h.1, fun hn => by
    obtain ⟨ad, e, hb, hc⟩ := h.2 hn
    exact ⟨ad, e, by omega, hc⟩⟩
theorem Reads.below (h : Reads w B size A n xs) (hb : Below B w w') : Reads w' B size A n xs := h.keep fun _ hp => hb.cell hp
theorem Reads.drew (h : Reads w B size A n xs) : Reads w.drew B size A n xs := h
theorem Reads.drewN (h : Reads w B size A n xs) (k : Nat) : Reads (w.drewN k) B size A n xs := h
theorem Reads.alloc (h : Reads w B size A n xs) (hB : B ≤ w.heap.size) (o : Obj) : Reads (w.alloc o) B size A n xs := h.keep fun p hp => World.cell?_alloc_lt w o p (by omega)
theorem Reads.setCell (h : Reads w B size A n xs) {p : Addr} (hB : B ≤ p.block) (u : Value) : Reads (w.setCell p u) B size A n xs :=
  h.keep fun q hq => World.cell?_setCell_other w p q u (fun e => by subst e; omega)
theorem Reads.grown (h : Reads w B size A n xs) {row : Option Nat} (hg : w.grownBy w' row) (hB : B ≤ w.heap.size) (hr : ∀ g, row = some g → B ≤ g) : Reads w' B size A n xs :=
  h.keep fun p hp => World.cell?_of_block (hg.block p.block (by omega) (fun e => by have := hr _ e.symm; omega))
theorem Reads.cut (h : Reads w B size A n xs) {k cap : Nat} (hk : k ≤ n) (hc : n ≤ cap) :
    Reads w B size (if cap = k then A else A.map (·.add (k * size))) (n - k) (xs.drop (k * size)) := by
  refine ⟨by rw [List.length_drop, h.1, Nat.sub_mul], fun hn => ?_⟩
  obtain ⟨ad, rfl, hb, hcell⟩ := h.2 (by omega)
  rw [if_neg (by omega)]
  refine ⟨ad.add (k * size), rfl, by rw [block_of_add]; exact hb, fun j u hu => ?_⟩
  rw [add_of_add]
  exact hcell _ u (by rw [← hu, List.getElem?_drop])
theorem Reads.of_own {base : Nat} {e : TypeId} {c : Nat} (h : w.ownsRow base e size (.slice A n c) n xs) : Reads w w.heap.size size A n xs := by
  refine ⟨h.1, fun hn => ?_⟩
  obtain ⟨g, cap, hv, _, hlt⟩ := h.form hn
  have hA : A = some ⟨g, 0, none⟩ := by injection hv
  subst hA
  exact ⟨_, rfl, hlt, h.cells (g := g) rfl⟩
end
section
variable {P : Program} (w : World)
theorem run_append_of_nil (base : Nat) (t ty e : TypeId) (i : TypeInfo) (size : Nat) (ht : P.underlying t = some (.slice e)) (hi : P.info? e = some i)
    (v : Value) (n : Nat) (xs : List Value) (hown : w.ownsRow base e size v n xs) (c : Nat) : (Builtin.append_ #[t, t] ty #[v, .slice none 0 c]).run P w = .ok v w := by
  rcases hown.2 with ⟨rfl, rfl⟩ | ⟨g, cap, cur, rfl, _, _, hnc, _⟩
  · simp [Builtin.append_, run_underlying ht, sizeOf, typeInfo, hi, Builtin.lenOf, Builtin.firstCells]
  · simp [Builtin.append_, run_underlying ht, sizeOf, typeInfo, hi, Builtin.lenOf, Builtin.firstCells, hnc, storeCells]
theorem run_append_any (base : Nat) (t ty e : TypeId) (i : TypeInfo) (z : Value) (size bytes : Nat) (ht : P.underlying t = some (.slice e)) (hi : P.info? e = some i) (hz : i.zero = some z)
    (hsize : i.size = size) (hby : i.bytes = bytes) (hzs : z.cells.size = size) (hsz : 0 < size)
    (v : Value) (n : Nat) (xs : List Value) (hown : w.ownsRow base e size v n xs)
    (B : Nat) (A : Option Addr) (m c : Nat) (news : List Value) (hr : Reads w B size A m news) (h1 : ∀ u ∈ news, u.oneCell' = true)
    (h63 : n + m ≤ maxLen) (hbytes : (n + m) * bytes ≤ 140737488355328) (hbase : base ≤ w.heap.size) :
    ∃ v' w', (Builtin.append_ #[t, t] ty #[v, .slice A m c]).run P w = .ok v' w' ∧ w'.ownsRow base e size v' (n + m) (xs ++ news) ∧ w.grownBy w' v.ownBlock ∧
      (v'.ownBlock = v.ownBlock ∨ v'.ownBlock = some w.heap.size) := by
  rcases A with _ | ad
  · have hm : m = 0 := by
      rcases Nat.eq_zero_or_pos m with h0 | h0
      · exact h0
      · obtain ⟨ad, h, _⟩ := hr.2 h0
        cases h
    subst hm
    have hn : news = [] := List.eq_nil_of_length_eq_zero (by simpa using hr.1)
    subst hn
    exact ⟨v, w, run_append_of_nil w base t ty e i size ht hi v n xs hown c, by simpa using hown, World.grownBy.refl w _, .inl rfl⟩
  · have hcells : ∀ j u, news[j]? = some u → w.cell? (ad.add j) = some u := by
      intro j u hu
      rcases Nat.eq_zero_or_pos m with h0 | h0
      · subst h0
        have hn : news = [] := List.eq_nil_of_length_eq_zero (by simpa using hr.1)
        subst hn
        simp at hu
      · obtain ⟨ad', h, _, hc⟩ := hr.2 h0
        injection h with h
        subst h
        exact hc j u hu
    obtain ⟨v', w', hrun, h2, h3, _, h5⟩ := run_append_own_at (P := P) w base t ty e i z size bytes ht hi hz hsize hby hzs hsz v n xs hown ad m c news hr.1 hcells h1 h63 hbytes hbase
    exact ⟨v', w', hrun, h2, h3, h5⟩
theorem wp_append_any {o : Oper} {a : Act} {K : Act → World → Prop} {Q : Exit → Act → World → Prop} (s x : Operand) (t : TypeId)
    (ho : o.op = .call { callee := .builtin .append, args := #[s, x], argTypes := #[t, t] })
    (base : Nat) (e : TypeId) (i : TypeInfo) (z : Value) (size bytes : Nat) (ht : P.underlying t = some (.slice e)) (hi : P.info? e = some i) (hz : i.zero = some z)
    (hsize : i.size = size) (hby : i.bytes = bytes) (hzs : z.cells.size = size) (hsz : 0 < size)
    (v : Value) (n : Nat) (xs : List Value) (hs : a.eval s = v) (hown : w.ownsRow base e size v n xs)
    (B : Nat) (A : Option Addr) (m c : Nat) (news : List Value) (hx : a.eval x = .slice A m c) (hr : Reads w B size A m news) (h1 : ∀ u ∈ news, u.oneCell' = true)
    (h63 : n + m ≤ maxLen) (hbytes : (n + m) * bytes ≤ 140737488355328) (hbase : base ≤ w.heap.size)
    (h : ∀ v' w', w'.ownsRow base e size v' (n + m) (xs ++ news) → w.grownBy w' v.ownBlock → (v'.ownBlock = v.ownBlock ∨ v'.ownBlock = some w.heap.size) → K (a.put o.dst v') w') : o.wp P a w K Q := by
  obtain ⟨v', w', hrun, h2, h3, h4⟩ := run_append_any (P := P) w base t o.type e i z size bytes ht hi hz hsize hby hzs hsz v n xs hown B A m c news hr h1 h63 hbytes hbase
  unfold Oper.wp execOp
  simp only [ho, resolve, invoke, builtin, Sem.run_bind, Sem.run_pure, Result.andThen_ok, List.map_toArray, List.map_cons, List.map_nil, hs, hx, hrun]
  exact h v' w' h2 h3 h4
theorem wpList_append_any {ops : Array Oper} {rest : List Oper} {o : Oper} {a : Act} {Q : Exit → Act → World → Prop} (hgd : o.guard = none) (s x : Operand) (t : TypeId)
    (ho : o.op = .call { callee := .builtin .append, args := #[s, x], argTypes := #[t, t] })
    (base : Nat) (e : TypeId) (i : TypeInfo) (z : Value) (size bytes : Nat) (ht : P.underlying t = some (.slice e)) (hi : P.info? e = some i) (hz : i.zero = some z)
    (hsize : i.size = size) (hby : i.bytes = bytes) (hzs : z.cells.size = size) (hsz : 0 < size)
    (v : Value) (n : Nat) (xs : List Value) (hs : a.eval s = v) (hown : w.ownsRow base e size v n xs)
    (B : Nat) (A : Option Addr) (m c : Nat) (news : List Value) (hx : a.eval x = .slice A m c) (hr : Reads w B size A m news) (h1 : ∀ u ∈ news, u.oneCell' = true)
    (h63 : n + m ≤ maxLen) (hbytes : (n + m) * bytes ≤ 140737488355328) (hbase : base ≤ w.heap.size)
    (h : ∀ v' w', w'.ownsRow base e size v' (n + m) (xs ++ news) → w.grownBy w' v.ownBlock → (v'.ownBlock = v.ownBlock ∨ v'.ownBlock = some w.heap.size) → wpList P ops Q rest (a.put o.dst v') w') : wpList P ops Q (o :: rest) a w :=
  wpList_plain hgd fun _ hK => wp_append_any w s x t ho base e i z size bytes ht hi hz hsize hby hzs hsz v n xs hs hown B A m c news hx hr h1 h63 hbytes hbase fun v' w' h2 h3 h4 => hK _ _ (h v' w' h2 h3 h4)
theorem step_append_any {ops : Array Oper} {o : Oper} {a : Act} {K : Act → World → Prop} {Q : Exit → Act → World → Prop} {E : Prop} (hgd : o.guard = none) (s x : Operand) (t : TypeId)
    (ho : o.op = .call { callee := .builtin .append, args := #[s, x], argTypes := #[t, t] })
    (base : Nat) (e : TypeId) (i : TypeInfo) (z : Value) (size bytes : Nat) (ht : P.underlying t = some (.slice e)) (hi : P.info? e = some i) (hz : i.zero = some z)
    (hsize : i.size = size) (hby : i.bytes = bytes) (hzs : z.cells.size = size) (hsz : 0 < size)
    (v : Value) (n : Nat) (xs : List Value) (hs : a.eval s = v) (hown : w.ownsRow base e size v n xs)
    (B : Nat) (A : Option Addr) (m c : Nat) (news : List Value) (hx : a.eval x = .slice A m c) (hr : Reads w B size A m news) (h1 : ∀ u ∈ news, u.oneCell' = true)
    (h63 : n + m ≤ maxLen) (hbytes : (n + m) * bytes ≤ 140737488355328) (hbase : base ≤ w.heap.size)
    (h : ∀ v' w', w'.ownsRow base e size v' (n + m) (xs ++ news) → w.grownBy w' v.ownBlock → (v'.ownBlock = v.ownBlock ∨ v'.ownBlock = some w.heap.size) → K (a.put o.dst v') w') :
    if Region.wanted o (yielded ops a.tmps) = true then Oper.wp P o a w K Q else E := by
  have hw : Region.wanted o (yielded ops a.tmps) = true := by simp [Region.wanted, hgd]
  rw [if_pos hw]
  exact wp_append_any w s x t ho base e i z size bytes ht hi hz hsize hby hzs hsz v n xs hs hown B A m c news hx hr h1 h63 hbytes hbase h
end
structure Fr (S : Nat → Prop) (w w' : World) : Prop where
  os : w'.os = w.os
  tape : w'.tape = w.tape
  output : w'.output = w.output
  size : w.heap.size ≤ w'.heap.size
  block : ∀ k, k < w.heap.size → ¬ S k → w'.heap[k]? = w.heap[k]?
namespace Fr
variable {S S' : Nat → Prop} {w w1 w2 : World}
theorem refl (S : Nat → Prop) (w : World) : Fr S w w := ⟨rfl, rfl, rfl, Nat.le_refl _, fun _ _ _ => rfl⟩
theorem trans (h : Fr S w w1) (k : Fr S' w1 w2) (hS : ∀ b, b < w.heap.size → S' b → S b) : Fr S w w2 :=
  ⟨k.os.trans h.os, k.tape.trans h.tape, k.output.trans h.output, Nat.le_trans h.size k.size, fun b hb hn => (k.block b (Nat.lt_of_lt_of_le hb h.size) (fun hs => hn (hS b hb hs))).trans (h.block b hb hn)⟩
theorem mono (h : Fr S w w1) (hS : ∀ b, b < w.heap.size → S b → S' b) : Fr S' w w1 := ⟨h.os, h.tape, h.output, h.size, fun b hb hn => h.block b hb (fun hs => hn (hS b hb hs))⟩
theorem alloc (h : Fr S w w1) (o : Obj) : Fr S w (w1.alloc o) :=
  ⟨h.os, h.tape, h.output, Nat.le_trans h.size (by simp), fun b hb hn => (Below.heap_alloc w1 o b (Nat.lt_of_lt_of_le hb h.size)).trans (h.block b hb hn)⟩
theorem drew (h : Fr S w w1) : Fr S w w1.drew := ⟨h.os, h.tape, h.output, h.size, h.block⟩
theorem drewN (h : Fr S w w1) (n : Nat) : Fr S w (w1.drewN n) := ⟨h.os, h.tape, h.output, h.size, h.block⟩
theorem setCell (h : Fr S w w1) {p : Addr} (hp : p.block < w.heap.size → S p.block) (v : Value) : Fr S w (w1.setCell p v) :=
  ⟨h.os, h.tape, h.output, by simpa [World.setCell] using h.size, fun b hb hn => (Below.heap_setCell w1 p v b (fun e => hn (by rw [e]; exact hp (by rw [← e]; exact hb)))).trans (h.block b hb hn)⟩
theorem below (h : Fr S w w1) (hb : Below w1.heap.size w1 w2) : Fr S w w2 :=
  ⟨hb.os.trans h.os, hb.tape.trans h.tape, hb.output.trans h.output, Nat.le_trans h.size hb.size, fun b hlt hn => (hb.block b (Nat.lt_of_lt_of_le hlt h.size)).trans (h.block b hlt hn)⟩
theorem grown (h : Fr S w w1) {r : Option Nat} (hg : w1.grownBy w2 r) (hr : ∀ b, r = some b → b < w.heap.size → S b) : Fr S w w2 :=
  ⟨hg.os.trans h.os, hg.tape.trans h.tape, hg.output.trans h.output, Nat.le_trans h.size hg.size, fun b hlt hn => (hg.block b (Nat.lt_of_lt_of_le hlt h.size) (fun e => hn (hr b e.symm hlt))).trans (h.block b hlt hn)⟩
theorem toBelow (h : Fr S w w1) (hS : ∀ b, b < w.heap.size → ¬ S b) : Below w.heap.size w w1 := ⟨h.os, h.tape, h.output, h.size, fun b hb => h.block b hb (hS b hb)⟩
theorem of_below (h : Below w.heap.size w w1) : Fr S w w1 := ⟨h.os, h.tape, h.output, h.size, fun b hb _ => h.block b hb⟩
theorem cell (h : Fr S w w1) {b o : Nat} (hn : ¬ S b) {v : Value} (hc : w.cell? ⟨b, o, none⟩ = some v) : w1.cell? ⟨b, o, none⟩ = some v := by
  have hlt := World.block_lt_of_cell? w _ hc
  exact (World.cell?_of_block (a := ⟨b, o, none⟩) (h.block b hlt hn)).trans hc
theorem blk (h : Fr S w w1) {b : Nat} {cs : Array Value} {T : TypeId} (hB : w.heap[b]? = some (.cells cs T (0, 0))) (hn : ¬ S b) : w1.heap[b]? = some (.cells cs T (0, 0)) :=
  (h.block b (Array.getElem?_eq_some_iff.1 hB).1 hn).trans hB
end Fr
theorem gcell {w w2 : World} {r : Option Nat} (h : w.grownBy w2 r) {b o : Nat} {v : Value} (hn : r ≠ some b) (hc : w.cell? ⟨b, o, none⟩ = some v) : w2.cell? ⟨b, o, none⟩ = some v := by
  have hlt := World.block_lt_of_cell? w _ hc
  exact (World.cell?_of_block (a := ⟨b, o, none⟩) (h.block b hlt (Ne.symm hn))).trans hc
def Go.Proofs.Kq.Own {α : Type} (l : α → List Value) (sz : Nat) (e : TypeId) (w : World) (base : Nat) (v : Value) (xs : List α) : Prop := w.ownsRow base e sz v xs.length (xs.flatMap l)
section
variable {α : Type} {l : α → List Value} {sz : Nat} {e : TypeId} {w w1 : World} {base : Nat} {v : Value} {xs : List α}
theorem Go.Proofs.Kq.Own.nil (l : α → List Value) (sz : Nat) (e : TypeId) (w : World) (base : Nat) : Go.Proofs.Kq.Own l sz e w base (.slice none 0 0) [] := ⟨by simp, .inl ⟨rfl, rfl⟩⟩
theorem Go.Proofs.Kq.Own.ge (h : Go.Proofs.Kq.Own l sz e w base v xs) {k : Nat} (hk : v.ownBlock = some k) : base ≤ k := by
  rcases h.2 with ⟨rfl, _⟩ | ⟨g, cap, cur, rfl, hg, _⟩
  · cases hk
  · cases hk; exact hg
theorem Go.Proofs.Kq.Own.at_ (h : Go.Proofs.Kq.Own l sz e w base v xs) {k : Nat} (hk : v.ownBlock = some k) : ∃ cur, w.heap[k]? = some (.cells cur e (0, 0)) := by
  rcases h.2 with ⟨rfl, _⟩ | ⟨g, cap, cur, rfl, hg, hh, _⟩
  · cases hk
  · cases hk; exact ⟨cur, hh⟩
theorem Go.Proofs.Kq.Own.lt (h : Go.Proofs.Kq.Own l sz e w base v xs) {k : Nat} (hk : v.ownBlock = some k) : k < w.heap.size := by
  obtain ⟨cur, hc⟩ := h.at_ hk
  exact (Array.getElem?_eq_some_iff.1 hc).1
theorem Go.Proofs.Kq.Own.kept (h : Go.Proofs.Kq.Own l sz e w base v xs) (hm : ∀ k, v.ownBlock = some k → w1.heap[k]? = w.heap[k]?) : Go.Proofs.Kq.Own l sz e w1 base v xs := by
  refine ⟨h.1, ?_⟩
  rcases h.2 with h2 | ⟨g, cap, cur, rfl, hg, hh, r⟩
  · exact .inl h2
  · exact .inr ⟨g, cap, cur, rfl, hg, (hm g rfl).trans hh, r⟩
theorem Go.Proofs.Kq.Own.fr {S : Nat → Prop} (h : Go.Proofs.Kq.Own l sz e w base v xs) (hf : Fr S w w1) (hn : ∀ k, v.ownBlock = some k → ¬ S k) : Go.Proofs.Kq.Own l sz e w1 base v xs := h.kept fun k hk => hf.block k (h.lt hk) (hn k hk)
theorem Go.Proofs.Kq.Own.below (h : Go.Proofs.Kq.Own l sz e w base v xs) (hb : Below w.heap.size w w1) : Go.Proofs.Kq.Own l sz e w1 base v xs := h.kept fun k hk => hb.block k (h.lt hk)
theorem Go.Proofs.Kq.Own.alloc (h : Go.Proofs.Kq.Own l sz e w base v xs) (o : Obj) : Go.Proofs.Kq.Own l sz e (w.alloc o) base v xs := h.kept fun k hk => Below.heap_alloc w o k (h.lt hk)
theorem Go.Proofs.Kq.Own.drew (h : Go.Proofs.Kq.Own l sz e w base v xs) : Go.Proofs.Kq.Own l sz e w.drew base v xs := h
theorem Go.Proofs.Kq.Own.drewN (h : Go.Proofs.Kq.Own l sz e w base v xs) (n : Nat) : Go.Proofs.Kq.Own l sz e (w.drewN n) base v xs := h
theorem Go.Proofs.Kq.Own.far (h : Go.Proofs.Kq.Own l sz e w base v xs) {p : Addr} (hp : v.ownBlock ≠ some p.block) (u : Value) : Go.Proofs.Kq.Own l sz e (w.setCell p u) base v xs :=
  h.kept fun k hk => Below.heap_setCell w p u k (fun e => hp (by rw [hk, e]))
theorem Go.Proofs.Kq.Own.ne (h : Go.Proofs.Kq.Own l sz e w base v xs) {g T : Nat} {cs : Array Value} (hB : w.heap[g]? = some (.cells cs T (0, 0))) (hT : e ≠ T) : v.ownBlock ≠ some g := by
  intro hk
  obtain ⟨cur, hc⟩ := h.at_ hk
  rw [hB] at hc
  cases hc
  exact hT rfl
theorem Go.Proofs.Kq.Own.ne_own {β : Type} {l' : β → List Value} {sz' : Nat} {e' : TypeId} {base' : Nat} {v' : Value} {ys : List β} (h : Go.Proofs.Kq.Own l sz e w base v xs) (h' : Go.Proofs.Kq.Own l' sz' e' w base' v' ys) (hT : e ≠ e') : ∀ k, v.ownBlock = some k → v'.ownBlock ≠ some k := by
  intro k hk hk'
  obtain ⟨cur, hc⟩ := h.at_ hk
  obtain ⟨cur', hc'⟩ := h'.at_ hk'
  rw [hc] at hc'
  cases hc'
  exact hT rfl
theorem Go.Proofs.Kq.Own.lower {base' : Nat} (h : Go.Proofs.Kq.Own l sz e w base v xs) (hb : base' ≤ base) : Go.Proofs.Kq.Own l sz e w base' v xs := by
  refine ⟨h.1, ?_⟩
  rcases h.2 with h2 | ⟨g, cap, cur, rfl, hg, r⟩
  · exact .inl h2
  · exact .inr ⟨g, cap, cur, rfl, Nat.le_trans hb hg, r⟩
theorem Go.Proofs.Kq.Own.cases_ (h : Go.Proofs.Kq.Own l sz e w base v xs) : (v = .slice none 0 0 ∧ xs = []) ∨ ∃ b c, v = .slice (some ⟨b, 0, none⟩) xs.length c ∧ xs.length ≤ c ∧ c ≤ 9223372036854775807 ∧ base ≤ b ∧ b < w.heap.size := by
  rcases h.2 with ⟨rfl, h0⟩ | ⟨g, cap, cur, rfl, hg, hh, hn, hm, _⟩
  · exact .inl ⟨rfl, List.length_eq_zero_iff.1 h0⟩
  · exact .inr ⟨g, cap, rfl, hn, hm, hg, (Array.getElem?_eq_some_iff.1 hh).1⟩
theorem Go.Proofs.Kq.Own.slice_ (h : Go.Proofs.Kq.Own l sz e w base v xs) : ∃ A c, v = .slice A xs.length c ∧ xs.length ≤ c := by
  rcases h.cases_ with ⟨rfl, rfl⟩ | ⟨b, c, rfl, hc, _⟩
  · exact ⟨_, _, rfl, Nat.le_refl _⟩
  · exact ⟨_, _, rfl, hc⟩
variable {hl : ∀ x, (l x).length = sz} {h1 : ∀ x, ∀ u ∈ l x, u.oneCell' = true}
theorem Go.Proofs.Kq.Own.reads (h : Go.Proofs.Kq.Own l sz e w base v xs) : ∃ A c, v = .slice A xs.length c ∧ xs.length ≤ c ∧ YtckfkbmefdmedaaW.PrintWords.Kd.C (Kp.plain sz l hl h1) w A xs.length xs := by
  rcases h.2 with ⟨rfl, h0⟩ | ⟨g, cap, cur, rfl, hg, hh, hn, hm, hcs, hcur⟩
  · obtain rfl := List.length_eq_zero_iff.1 h0
    exact ⟨none, 0, rfl, Nat.le_refl _, rfl, by simp, fun h => absurd h (by simp)⟩
  · refine ⟨_, cap, rfl, hn, rfl, by simp only [maxLen] at hm; omega, fun _ => ⟨_, rfl, fun j q hj => ⟨l q, hl q, rfl, fun i u hu => ?_⟩⟩⟩
    rw [Kp.add_plain', Nat.zero_add]
    show w.cell? ⟨g, j * sz + i, none⟩ = some u
    have := Kp.flat_get hl hu xs j hj
    rw [← hcur, List.getElem?_take] at this
    split at this
    · simp only [World.cell?, hh, Option.isSome_none, Bool.false_eq_true, if_false]
      rw [← Array.getElem?_toList]; exact this
    · cases this
theorem flat_inv (hl : ∀ x, (l x).length = sz) (hs : 0 < sz) {u : Value} : ∀ (xs : List α) (j : Nat), (xs.flatMap l)[j]? = some u → ∃ i q r, xs[i]? = some q ∧ (l q)[r]? = some u ∧ j = i * sz + r
  | [], j, h => by simp at h
  | x :: xs, j, h => by
    simp only [List.flatMap_cons] at h
    by_cases hj : j < sz
    · rw [List.getElem?_append_left (by rw [hl]; exact hj)] at h
      exact ⟨0, x, j, rfl, h, by simp⟩
    · rw [List.getElem?_append_right (by rw [hl]; omega), hl] at h
      obtain ⟨i, q, r, h1, h2, h3⟩ := flat_inv hl hs xs _ h
      exact ⟨i + 1, q, r, h1, h2, by rw [Nat.succ_mul]; omega⟩
theorem flat_len (hl : ∀ x, (l x).length = sz) : ∀ xs : List α, (xs.flatMap l).length = xs.length * sz
  | [] => by simp
  | x :: xs => by simp [flat_len hl xs, hl, Nat.succ_mul, Nat.add_comm]
theorem flat_one (h1 : ∀ x, ∀ u ∈ l x, u.oneCell' = true) (xs : List α) : ∀ u ∈ xs.flatMap l, u.oneCell' = true := by
  intro u hu
  obtain ⟨x, _, hx⟩ := List.mem_flatMap.1 hu
  exact h1 x u hx
theorem reads_of_C {A : Option Addr} {n : Nat} (hs : 0 < sz) (h : YtckfkbmefdmedaaW.PrintWords.Kd.C (Kp.plain sz l hl h1) w A n xs) : Reads w w.heap.size sz A n (xs.flatMap l) := by
  refine ⟨by rw [flat_len hl, h.1], fun hn => ?_⟩
  obtain ⟨b, off, rfl, hc⟩ := Kp.C_open h hn hs
  refine ⟨_, rfl, ?_, fun j u hu => ?_⟩
  · have hx : 0 < xs.length := by rw [h.1]; exact hn
    have := hc 0 hx 0 ((l xs[0])[0]'(by rw [hl]; exact hs)) (List.getElem?_eq_getElem _)
    have hlt := World.block_lt_of_cell? w _ this
    exact hlt
  · obtain ⟨i, q, r, h2, h3, rfl⟩ := flat_inv hl hs xs j hu
    obtain ⟨hi, rfl⟩ := List.getElem?_eq_some_iff.1 h2
    rw [Kp.add_plain', ← Nat.add_assoc]
    exact hc i hi r u h3
theorem Go.Proofs.Kq.Own.snoc {p : α} (h : w.ownsRow base e sz v (xs.length + 1) (xs.flatMap l ++ l p)) : Go.Proofs.Kq.Own l sz e w base v (xs ++ [p]) := by
  unfold Go.Proofs.Kq.Own
  simpa using h
theorem Go.Proofs.Kq.Own.app {ys : List α} (h : w.ownsRow base e sz v (xs.length + ys.length) (xs.flatMap l ++ ys.flatMap l)) : Go.Proofs.Kq.Own l sz e w base v (xs ++ ys) := by
  unfold Go.Proofs.Kq.Own
  simpa using h
end
end Go.Proofs.Kq
namespace Go.Proofs.Ytckfkbmefdmedaa
open Go.RowKit Go.Proofs.Kq
open Go.Proofs.YtckfkbmefdmedaaW.PrintWords (pw_cell_below step_append_cells print_append_cells Kd Kd.C Kd.C_below)
open Go.Proofs.YtckfkbmefdmedaaW.PrintLast
set_option linter.unusedSimpArgs false
set_option linter.unusedVariables false
def lowI : Nat → Int → List Int
  | 0, _ => []
  | k + 1, n => n % 256 :: lowI k (n / 256)
theorem lowI_len : ∀ (k : Nat) (n : Int), (lowI k n).length = k
  | 0, _ => rfl
  | k + 1, n => by simp [lowI, lowI_len k]
theorem lowI_mem : ∀ (k : Nat) (n : Int), ∀ z ∈ lowI k n, 0 ≤ z ∧ z < 256
  | 0, _, z, hz => by simp [lowI] at hz
  | k + 1, n, z, hz => by
    simp only [lowI, List.mem_cons] at hz
    rcases hz with rfl | hz
    · omega
    · exact lowI_mem k _ z hz
def vI : List Int → Int
  | [] => 0
  | b :: l => b + 256 * vI l
theorem vI_low : ∀ (k : Nat) (n : Int), 0 ≤ n → n < 256 ^ k → vI (lowI k n) = n
  | 0, n, h0, h1 => by simp at h1; simp [lowI, vI]; omega
  | k + 1, n, h0, h1 => by
    have : n / 256 < 256 ^ k := by rw [Int.pow_succ] at h1; exact Int.ediv_lt_of_lt_mul (by decide) h1
    simp only [lowI, vI]
    rw [vI_low k (n / 256) (by omega) this]
    omega
def lcells (l : List Int) : Array Value := (l.map fun z => Value.int .u8 z).toArray
def LowP (k : Nat) (n : Int) (w : World) (e : Ending) (w' : World) : Prop := ∃ b, e = .returned (.slice (some ⟨b, 0, none⟩) k k) ∧ Blk w' b (lcells (lowI k n)) 5 ∧ w.heap.size ≤ b ∧ Below w.heap.size w w'
set_option maxHeartbeats 4000000 in
theorem low8_any (n : Int) (w : World) (h0 : 0 ≤ n) (h1 : n ≤ 18446744073709551615) :
    Calls Try.prog 129 #[.int .u64 n, .int .i64 8] w (LowP 8 n w) := by
  have hmk : ∀ w, (Instr.makeSlice 42 (.int .i64 8) (.int .i64 8)).run Try.prog w = .ok (.slice (some ⟨w.heap.size, 0, none⟩) 8 8) (w.alloc (.cells #[.int .u8 0, .int .u8 0, .int .u8 0, .int .u8 0, .int .u8 0, .int .u8 0, .int .u8 0, .int .u8 0] 5)) := fun _ => by kernel_rfl
  have hend : Hid (∀ w', w' = w.alloc (.cells #[.int .u8 (n % 256), .int .u8 (n / 256 % 256), .int .u8 (n / 65536 % 256), .int .u8 (n / 16777216 % 256), .int .u8 (n / 4294967296 % 256), .int .u8 (n / 1099511627776 % 256), .int .u8 (n / 281474976710656 % 256), .int .u8 (n / 72057594037927936)] 5) → LowP 8 n w (.returned (.slice (some ⟨w.heap.size, 0, none⟩) 8 8)) w') := by
    rintro w' rfl
    have e2 : n / 256 / 256 % 256 = n / 65536 % 256 := by omega
    have e3 : n / 256 / 256 / 256 % 256 = n / 16777216 % 256 := by omega
    have e4 : n / 256 / 256 / 256 / 256 % 256 = n / 4294967296 % 256 := by omega
    have e5 : n / 256 / 256 / 256 / 256 / 256 % 256 = n / 1099511627776 % 256 := by omega
    have e6 : n / 256 / 256 / 256 / 256 / 256 / 256 % 256 = n / 281474976710656 % 256 := by omega
    have e7 : n / 256 / 256 / 256 / 256 / 256 / 256 / 256 % 256 = n / 72057594037927936 := by omega
    exact ⟨_, rfl, by simp only [lcells, lowI, e2, e3, e4, e5, e6, e7]; exact Blk.new' rfl, Nat.le_refl _, below_new (Below.refl _ _) _⟩
  go_enter Try.func129, Try.ntmps129
  go_wp2
  refine wp_loop_rounds 9 ?_
  iterate 9
    rw [rounds_succ]
    go_wp2
  go_ret
  exact hend.out _ rfl
def bn (s : ByteArray) : List Int := s.data.toList.map fun b => (b.toNat : Int)
theorem bn_len (s : ByteArray) : (bn s).length = s.size := by simp [bn]
theorem bn_mem (s : ByteArray) : ∀ z ∈ bn s, 0 ≤ z ∧ z < 256 := by
  intro z hz
  simp only [bn, List.mem_map] at hz
  obtain ⟨b, _, rfl⟩ := hz
  have := b.toNat_lt
  omega
theorem bn_at (s : ByteArray) (k : Nat) (h : k < s.size) : (bn s)[k]'(by rw [bn_len]; exact h) = (s[k].toNat : Int) := by
  simp only [bn, List.getElem_map, Array.getElem_toList]; rfl
def l8o (z : Int) : List Value := [.int .u8 z]
def nums8 (xs : List Int) : List Value := xs.map fun z => .int .u8 z
theorem l8o_one : ∀ x : Int, ∀ u ∈ l8o x, u.oneCell' = true := by intro x u hu; rcases List.mem_singleton.1 hu with rfl; rfl
theorem flat8 : ∀ (xs : List Int), xs.flatMap l8o = nums8 xs
  | [] => rfl
  | x :: xs => by simp only [List.flatMap_cons, flat8 xs, l8o, nums8, List.map_cons, List.cons_append, List.nil_append]
theorem nums8_one (xs : List Int) : ∀ u ∈ nums8 xs, u.oneCell' = true := by
  intro u hu
  simp only [nums8, List.mem_map] at hu
  obtain ⟨z, _, rfl⟩ := hu; rfl
theorem info5o : (Try.prog.info? 5).map (fun i => (i.zero, i.size, i.bytes)) = some (some (.int .u8 0), 1, 1) := by kernel_rfl
theorem own_nbo {α : Type} {l : α → List Value} {sz : Nat} {e : TypeId} {w : World} {base : Nat} {v : Value} {xs : List α} {g T : Nat} {cs : Array Value} (h : Go.Proofs.Kq.Own l sz e w base v xs) (hB : Blk w g cs T) (hT : e ≠ T) : v.ownBlock ≠ some g := h.ne hB hT
theorem own_nums {w : World} {base : Nat} {v : Value} {xs ys : List Int} (h : w.ownsRow base 5 1 v (xs.length + ys.length) (xs.flatMap l8o ++ nums8 ys)) : Go.Proofs.Kq.Own l8o 1 5 w base v (xs ++ ys) :=
  Go.Proofs.Kq.Own.app (by rw [flat8 ys]; exact h)
structure Wt (w : World) (base g : Nat) (v : Value) (bs : List Int) (bad : Bool) : Prop where
  blk : Blk w g #[v, .bool bad] 180
  own : Go.Proofs.Kq.Own l8o 1 5 w base v bs
def WP (base g : Nat) (v : Value) (bs : List Int) (bad : Bool) (w : World) (e : Ending) (w' : World) : Prop :=
  ∃ v', e = .returned (.pointer (some ⟨g, 0, none⟩)) ∧ Wt w' base g v' bs bad ∧ Fr (fun k => k = g ∨ v.ownBlock = some k) w w'
theorem u64_bd (n : Int) : 0 ≤ IntKind.u64.wrap n ∧ IntKind.u64.wrap n ≤ 18446744073709551615 := by rw [IntKind.wrap_u64]; omega
set_option maxRecDepth 100000 in
set_option maxHeartbeats 4000000 in
theorem wint_any (base g : Nat) (v : Value) (bs : List Int) (bad : Bool) (n : Int) (w : World) (h : Wt w base g v bs bad) (hb : base ≤ w.heap.size) (hl : bs.length ≤ 1000000000) :
    Calls Try.prog 115 #[.pointer (some ⟨g, 0, none⟩), .int .i64 n] w (WP base g v (bs ++ lowI 8 (IntKind.u64.wrap n)) bad w) := by
  obtain ⟨hB, hO⟩ := h
  obtain ⟨A0, c0, rfl, _⟩ := hO.slice_
  have c0' := hB.c; have l0 := hB.lt
  obtain ⟨hu0, hu1⟩ := u64_bd n
  go_enter Try.func115, Try.ntmps115
  go_wp2_with fail
  refine start_ (n := 12) (S := fun w' => w'.cell? ⟨g, 0, none⟩ = some (.slice A0 bs.length c0)) (ds := [11]) #[false, false, false, false, false, false, false, false, false, false, false, false] (by kernel_rfl) rfl rfl ((by rw [World.cell?_drew]; exact c0' 0)) (fun hHeld => ?_)
  refine pure_ (i := 0) (N := some 7) (v := ?_) (a' := ?_) #[true, false, false, false, false, false, false, false, false, false, false, false] rfl rfl (by kernel_rfl) (fun _ _ _ h => h) (Or.inl ⟨by rfl, ?_⟩) ?_ ?_
  rotate_left
  · intro w'
    go_simp
    with_reducible rfl
  rotate_left
  · simp only [Act.put, List.setIfInBounds_toArray, List.set_cons_zero, List.set_cons_succ, i64_w, i32_w]
    rfl
  refine pure_ (i := 1) (N := some 8) (v := ?_) (a' := ?_) #[true, true, false, false, false, false, false, false, false, false, false, false] rfl rfl (by kernel_rfl) (fun _ _ _ h => h) (Or.inl ⟨by rfl, ?_⟩) ?_ ?_
  rotate_left
  · intro w'
    go_simp
    with_reducible rfl
  rotate_left
  · simp only [Act.put, List.setIfInBounds_toArray, List.set_cons_zero, List.set_cons_succ, i64_w, i32_w]
    rfl
  refine pure_ (i := 2) (N := some 9) (v := ?_) (a' := ?_) #[true, true, true, false, false, false, false, false, false, false, false, false] rfl rfl (by kernel_rfl) (fun _ _ _ h => h) (Or.inl ⟨by rfl, ?_⟩) ?_ ?_
  rotate_left
  · intro w'
    go_simp
    with_reducible rfl
  rotate_left
  · simp only [Act.put, List.setIfInBounds_toArray, List.set_cons_zero, List.set_cons_succ, i64_w, i32_w]
    rfl
  refine pure_ (i := 3) (N := some 10) (v := ?_) (a' := ?_) #[true, true, true, true, false, false, false, false, false, false, false, false] rfl rfl (by kernel_rfl) (fun _ _ _ h => h) (Or.inl ⟨by rfl, ?_⟩) ?_ ?_
  rotate_left
  · intro w'
    go_simp
    with_reducible rfl
  rotate_left
  · simp only [Act.put, List.setIfInBounds_toArray, List.set_cons_zero, List.set_cons_succ, i64_w, i32_w]
    rfl
  refine pure_ (i := 5) (N := some 12) (v := ?_) (a' := ?_) #[true, true, true, true, false, true, false, false, false, false, false, false] rfl rfl (by kernel_rfl) (fun _ _ _ h => h) (Or.inl ⟨by rfl, ?_⟩) ?_ ?_
  rotate_left
  · intro w'
    go_simp
    with_reducible rfl
  rotate_left
  · simp only [Act.put, List.setIfInBounds_toArray, List.set_cons_zero, List.set_cons_succ, i64_w, i32_w]
    rfl
  refine pure_ (i := 6) (N := some 13) (v := ?_) (a' := ?_) #[true, true, true, true, false, true, true, false, false, false, false, false] rfl rfl (by kernel_rfl) (fun _ _ _ h => h) (Or.inl ⟨by rfl, ?_⟩) ?_ ?_
  rotate_left
  · intro w'
    go_simp
    with_reducible rfl
  rotate_left
  · simp only [Act.put, List.setIfInBounds_toArray, List.set_cons_zero, List.set_cons_succ, i64_w, i32_w]
    rfl
  refine take_ (i := 4) (N := some 11) (v := ?_) (a' := ?_) #[true, true, true, true, true, true, true, false, false, false, false, false] rfl rfl (by kernel_rfl) (fun _ _ _ h => h) (Or.inl ⟨by rfl, ?_⟩) hHeld ?_ ?_
  rotate_left
  · intro w' s0
    go_simp
    with_reducible rfl
  rotate_left
  · simp only [Act.put, List.setIfInBounds_toArray, List.set_cons_zero, List.set_cons_succ, i64_w, i32_w]
    rfl
  refine one_ (i := 7) (N := some 14) #[true, true, true, true, true, true, true, true, false, false, false, false] rfl rfl (by kernel_rfl) (by decide) (fun K hK => ?_)
  refine goes_ Try.func129 (by kernel_rfl) rfl #[.int .u64 (IntKind.u64.wrap n), .int .i64 8] (by rfl) rfl rfl (by simp only [List.map_toArray, List.map_cons, List.map_nil]; rfl) ?_
  with_reducible refine (low8_any _ _ hu0 hu1).mono ?_
  rintro e w3 ⟨bL, rfl, hBL, hge, hb3⟩
  refine ⟨_, rfl, ?_⟩
  have hbL := below_step (Below.refl w.heap.size w).drew hb3
  have hB3 := (hB.dr).be hb3
  have hO3 := (hO.drew).below hb3
  have c3 := hB3.c; have l3 := hB3.lt; have f3 := hB3.f
  refine hK.out _ _ ((pw_cell_below hb3 hHeld)) (fun hHeld => ?_)
  clear hK K
  refine norm_ (a' := ?_) ?_ ?_
  rotate_left
  · show Act.put _ (some 14) _ = _
    simp only [Act.put, List.setIfInBounds_toArray, List.set_cons_zero, List.set_cons_succ, i64_w, i32_w]
    rfl
  refine one_ (i := 8) (N := some 15) #[true, true, true, true, true, true, true, true, true, false, false, false] rfl rfl (by kernel_rfl) (by decide) (fun K hK => ?_)
  obtain ⟨i0, hi0, hz0, hz1, hz2⟩ := info_parts info5o
  have hRd : Reads w3 w3.heap.size 1 (some ⟨bL, 0, none⟩) 8 (nums8 (lowI 8 (IntKind.u64.wrap n))) := ⟨by simp [nums8, lowI_len], fun _ => ⟨_, rfl, hBL.lt, fun j u hu => by rw [Kp.add_plain', Nat.zero_add, hBL.c]; simpa [lcells, nums8] using hu⟩⟩
  refine step_append_any w3 rfl (.tmp 11) (.tmp 14) 42 rfl base 5 i0 (.int .u8 0) 1 1 Try.underlying42 hi0 hz0 hz1 hz2 rfl (by decide) (.slice A0 bs.length c0) bs.length (bs.flatMap l8o) (by rfl) hO3 w3.heap.size (some ⟨bL, 0, none⟩) 8 8 (nums8 (lowI 8 (IntKind.u64.wrap n))) (by rfl) hRd (nums8_one _) (by simp only [maxLen]; omega) (by omega) (by have := hbL.size; omega) ?_
  intro v4 w4 ho4 hg4 hat4
  have hO4 := own_nums (xs := bs) (ys := lowI 8 (IntKind.u64.wrap n)) (by rw [lowI_len]; exact ho4)
  obtain ⟨zs4, hz4⟩ : ∃ z, z = bs ++ lowI 8 (IntKind.u64.wrap n) := ⟨_, rfl⟩
  rw [← hz4] at hO4
  have HZ4 := hidI hz4
  have hzl4 : zs4.length = bs.length + 8 := by rw [hz4, List.length_append, lowI_len]
  have HZL4 := hidI hzl4
  clear hz4 hzl4
  obtain ⟨A4, c4, rfl, _⟩ := hO4.slice_
  have NG3 := own_nbo hO3 hB3 (by decide)
  have hB4 : Blk w4 g #[.slice A0 bs.length c0, .bool bad] 180 := Blk.gb hB3 hg4 (Ne.symm NG3)
  have c4' := hB4.c; have l4 := hB4.lt; have f4 := hB4.f
  refine hK.out _ _ ((gcell hg4 NG3 hHeld)) (fun hHeld => ?_)
  clear hK K
  refine norm_ (a' := ?_) ?_ ?_
  rotate_left
  · show Act.put _ (some 15) _ = _
    simp only [Act.put, List.setIfInBounds_toArray, List.set_cons_zero, List.set_cons_succ, i64_w, i32_w]
    rfl
  refine pure_ (i := 9) (N := some 16) (v := ?_) (a' := ?_) #[true, true, true, true, true, true, true, true, true, true, false, false] rfl rfl (by kernel_rfl) (fun _ _ _ h => h) (Or.inl ⟨by rfl, ?_⟩) ?_ ?_
  rotate_left
  · intro w'
    go_simp
    with_reducible rfl
  rotate_left
  · simp only [Act.put, List.setIfInBounds_toArray, List.set_cons_zero, List.set_cons_succ, i64_w, i32_w]
    rfl
  refine pure_ (i := 10) (N := some 17) (v := ?_) (a' := ?_) #[true, true, true, true, true, true, true, true, true, true, true, false] rfl rfl (by kernel_rfl) (fun _ _ _ h => h) (Or.inl ⟨by rfl, ?_⟩) ?_ ?_
  rotate_left
  · intro w'
    go_simp
    with_reducible rfl
  rotate_left
  · simp only [Act.put, List.setIfInBounds_toArray, List.set_cons_zero, List.set_cons_succ, i64_w, i32_w]
    rfl
  refine last_ (i := 11) (N := none) #[true, true, true, true, true, true, true, true, true, true, true, true] rfl rfl (by kernel_rfl) (by decide) (fun K hK => ?_)
  refine skip_ (w1 := ?_) (by rfl) rfl ?_ ?_
  rotate_left
  · go_simp
    rfl
  refine hK.out _ _ ?_
  clear hK K
  refine done_ (by kernel_rfl) ?_
  have hfin : Hid (WP base g (.slice A0 bs.length c0) (bs ++ lowI 8 (IntKind.u64.wrap n)) bad w (.returned (.pointer (some ⟨g, 0, none⟩))) (w4.setCell ⟨g, 0, none⟩ (.slice A4 zs4.length c4))) :=
    ⟨_, rfl, ⟨(hB4.st 0 _).of rfl, by rw [← HZ4.out]; exact hO4.far (p := ⟨g, 0, none⟩) (own_nbo hO4 hB4 (by decide)) _⟩, Fr.setCell (S := fun k => k = g ∨ (Value.slice A0 bs.length c0).ownBlock = some k) (p := ⟨g, 0, none⟩) ((Fr.of_below hbL).grown hg4 (fun b h _ => Or.inr h)) (fun _ => Or.inl rfl) _⟩
  generalize w4.setCell ⟨g, 0, none⟩ _ = w7 at *
  clear hO4 hB4 c4' l4 f4 hg4 ho4 hat4 hB3 hO3 c3 l3 f3 hB hO c0' l0 hBL hb3 hbL
  go_wp2
  go_ret
  exact hfin.out
theorem sn_size (xs : List Int) : (strOfNums xs).size = xs.length := by
  show (List.toArray _).size = _
  simp
theorem bn_sn {xs : List Int} (h : ∀ z ∈ xs, 0 ≤ z ∧ z < 256) : bn (strOfNums xs) = xs := by
  simp only [bn, strOfNums, List.map_map]
  refine (List.map_congr_left (g := id) ?_).trans (List.map_id _)
  intro z hz
  have := h z hz
  simp only [Function.comp, id, UInt8.toNat_ofNat']
  omega
theorem sn_take (xs : List Int) (n : Nat) : (strOfNums xs).extract 0 n = strOfNums (xs.take n) := by
  apply ByteArray.ext
  apply Array.ext'
  simp [strOfNums, List.map_take]
theorem toC8 {w : World} {A : Option Addr} {n : Nat} {xs : List Int} (h : Kd.C (Kp.plain 1 l8o (fun _ => rfl) l8o_one) w A n xs) : (Go.Proofs.YtckfkbmefdmedaaW.PrintWords.Kd.int .u8).C w A n xs := h
theorem own8o {w : World} {base : Nat} {v : Value} {xs : List Int} (h : Go.Proofs.Kq.Own l8o 1 5 w base v xs) : ∃ A c, v = .slice A xs.length c ∧ xs.length ≤ c ∧ Kd.C (Kp.plain 1 l8o (fun _ => rfl) l8o_one) w A xs.length xs :=
  Go.Proofs.Kq.Own.reads (hl := fun x => (rfl : (l8o x).length = 1)) (h1 := l8o_one) h
def BytesP (bs : List Int) (bad : Bool) (w : World) (e : Ending) (w' : World) : Prop := e = .returned (.tuple #[.string (if bad = true then ⟨#[]⟩ else strOfNums bs), .int .i64 (if bad = true then 1 else 0)]) ∧ w = w'
set_option maxHeartbeats 2000000 in
theorem wbytes_any (base g : Nat) (v : Value) (bs : List Int) (bad : Bool) (w : World) (h : Wt w base g v bs bad) :
    Calls Try.prog 116 #[.pointer (some ⟨g, 0, none⟩)] w (BytesP bs bad w) := by
  obtain ⟨A0, c0, rfl, _, hC⟩ := own8o h.own
  have hcv := Go.Proofs.YtckfkbmefdmedaaW.PrintWords.Kd.C_string (P := Try.prog) (src := 42) (dst := 9) (c := c0) Try.underlying42 Try.underlying5 Try.underlying9 (toC8 hC)
  have c0' := h.blk.c; have l0 := h.blk.lt
  clear h hC
  cases bad
  · have hend : Hid (BytesP bs false w (.returned (.tuple #[.string (strOfNums bs), .int .i64 0])) w) := ⟨rfl, rfl⟩
    go_enter Try.func116, Try.ntmps116
    go_wp2
    go_ret2
    exact hend.out
  · have hend : Hid (BytesP bs true w (.returned (.tuple #[.string ⟨#[]⟩, .int .i64 1])) w) := ⟨rfl, rfl⟩
    go_enter Try.func116, Try.ntmps116
    go_wp2
    go_ret2
    exact hend.out
theorem WP.bel {w0 w w' : World} {g : Nat} {v : Value} {bs : List Int} {bad : Bool} {e : Ending} {base : Nat} (h : Fr (fun k => k = g ∨ v.ownBlock = some k) w w') (hW : Wt w w0.heap.size g v bs bad) (hg : w0.heap.size ≤ g) (hb : Below w0.heap.size w0 w) : Below w0.heap.size w0 w' := by
  refine ((Fr.of_below (S := fun k => w0.heap.size ≤ k) hb).trans h (fun b _ e => ?_)).toBelow (fun b hb2 hk => by omega)
  rcases e with rfl | e
  · exact hg
  · exact hW.own.ge e
def WG (w0 : World) (g : Nat) (bs : List Int) (bad : Bool) (w : World) : Prop := ∃ v, Wt w w0.heap.size g v bs bad ∧ w0.heap.size ≤ g ∧ Below w0.heap.size w0 w
theorem WG.below {w0 w w1 : World} {g : Nat} {bs : List Int} {bad : Bool} (h : WG w0 g bs bad w) (hb : Below w.heap.size w w1) : WG w0 g bs bad w1 := by
  obtain ⟨v, ⟨h1, h2⟩, h3, h4⟩ := h
  exact ⟨v, ⟨h1.be hb, h2.below hb⟩, h3, below_step h4 hb⟩
theorem wint_wg {w0 w : World} {g : Nat} {bs : List Int} {bad : Bool} (n : Int) (h : WG w0 g bs bad w) (hl : bs.length ≤ 1000000000) :
    Calls Try.prog 115 #[.pointer (some ⟨g, 0, none⟩), .int .i64 n] w fun e w' => e = .returned (.pointer (some ⟨g, 0, none⟩)) ∧ WG w0 g (bs ++ lowI 8 (IntKind.u64.wrap n)) bad w' := by
  obtain ⟨v, h1, h3, h4⟩ := h
  refine (wint_any w0.heap.size g v bs bad n w h1 h4.size hl).mono ?_
  rintro e w' ⟨v', rfl, h5, h6⟩
  exact ⟨rfl, v', h5, h3, WP.bel (e := .outgrown) (base := 0) h6 h1 h3 h4⟩
theorem WG.new {w0 w : World} (hb : Below w0.heap.size w0 w) : WG w0 w.heap.size [] false (w.alloc (.cells #[.slice none 0 0, .bool false] 180)) :=
  ⟨.slice none 0 0, ⟨Blk.new' rfl, Go.Proofs.Kq.Own.nil _ _ _ _ _⟩, hb.size, below_new hb _⟩
theorem wbytes_wg {w0 w : World} {g : Nat} {bs : List Int} {bad : Bool} (h : WG w0 g bs bad w) : Calls Try.prog 116 #[.pointer (some ⟨g, 0, none⟩)] w (BytesP bs bad w) := by
  obtain ⟨v, h1, _⟩ := h
  exact wbytes_any w0.heap.size g v bs bad w h1
end Go.Proofs.Ytckfkbmefdmedaa
namespace Go.Proofs.Ytckfkbmefdmedaa
open Go.RowKit Go.Proofs.Kq Go
set_option linter.unusedVariables false
set_option linter.unusedSimpArgs false
theorem take_bn (s : ByteArray) (k : Nat) (h : k < s.size) : (bn s).take (k + 1) = (bn s).take k ++ [(s[k].toNat : Int)] := by
  rw [List.take_succ_eq_append_getElem (by rw [bn_len]; exact h), bn_at s k h]
def crcB (v : Int) : Int := if v % 2 = 1 then Go.bits .xor .u32 (v / 2) 3988292384 else v / 2
def crcN : Nat → Int → Int
  | 0, v => v
  | k + 1, v => crcN k (crcB v)
def crcL (v : Int) (l : List Int) : Int := l.foldl (fun v b => crcN 8 (Go.bits .xor .u32 v b)) v
def crcF (s : ByteArray) : Int := Go.bits .xor .u32 (crcL 4294967295 (bn s)) 4294967295
def in32 (v : Int) : Prop := 0 ≤ v ∧ v ≤ 4294967295
theorem xor_in (a b : Int) (ha : in32 a) (hb : in32 b) : in32 (Go.bits .xor .u32 a b) := by
  unfold in32 at *
  rw [u32_xor a b ha.1 (by omega) hb.1 (by omega)]
  have := Nat.xor_lt_two_pow (x := a.toNat) (y := b.toNat) (n := 32) (by omega) (by omega)
  omega
theorem xor_zero (a : Int) (ha : in32 a) : Go.bits .xor .u32 a 0 = a := by
  unfold in32 at *
  rw [u32_xor a 0 ha.1 (by omega) (by omega) (by omega)]
  simp; omega
theorem and_one (a : Int) (ha : in32 a) : Go.bits .and .u32 a 1 = a % 2 := by
  unfold in32 at *
  rw [u32_and a 1 ha.1 (by omega) (by omega) (by omega)]
  show ((a.toNat &&& 1 : Nat) : Int) = _
  rw [Nat.and_one_is_mod]; omega
theorem crcB_in (v : Int) (h : in32 v) : in32 (crcB v) := by
  have h2 : in32 (v / 2) := by unfold in32 at *; omega
  unfold crcB
  split
  · exact xor_in _ _ h2 (by unfold in32; omega)
  · exact h2
theorem crcB_eq (v : Int) (h : in32 v) : Go.bits .xor .u32 (v / 2) (3988292384 * Go.bits .and .u32 v 1 % 4294967296) = crcB v := by
  rw [and_one v h]
  have h2 : in32 (v / 2) := by unfold in32 at *; omega
  unfold crcB
  rcases Int.emod_two_eq v with e | e
  · rw [e, if_neg (by decide)]; exact xor_zero _ h2
  · rw [e, if_pos rfl]; rfl
theorem crcN_in : ∀ (k : Nat) (v : Int), in32 v → in32 (crcN k v)
  | 0, v, h => h
  | k + 1, v, h => crcN_in k _ (crcB_in v h)
theorem crcL_in : ∀ (l : List Int) (v : Int), in32 v → (∀ b ∈ l, 0 ≤ b ∧ b < 256) → in32 (crcL v l)
  | [], v, h, _ => h
  | b :: l, v, h, hb => crcL_in l _ (crcN_in 8 _ (xor_in _ _ h (by have := hb b (by simp); unfold in32; omega))) (fun x hx => hb x (by simp [hx]))
theorem crcL_snoc (v : Int) (l : List Int) (b : Int) : crcL v (l ++ [b]) = crcN 8 (Go.bits .xor .u32 (crcL v l) b) := by simp [crcL, List.foldl_append]
theorem crcF_in (s : ByteArray) : in32 (crcF s) := xor_in _ _ (crcL_in _ _ (by unfold in32; omega) (bn_mem s)) (by unfold in32; omega)
theorem xor_comm32 (a b : Int) (ha : in32 a) (hb : in32 b) : Go.bits .xor .u32 a b = Go.bits .xor .u32 b a := by
  unfold in32 at *
  rw [u32_xor a b ha.1 (by omega) hb.1 (by omega), u32_xor b a hb.1 (by omega) ha.1 (by omega), Nat.xor_comm]
set_option maxRecDepth 100000 in
set_option maxHeartbeats 4000000 in
theorem crc_any (s : ByteArray) (w : World) (hs : s.size ≤ 1000000) : Calls Try.prog 100 #[.string s] w fun e w' => e = .returned (.int .u32 (crcF s)) ∧ w = w' := by
  go_enter Try.func100, Try.ntmps100
  go_wp2
  go_loop [3, 7] (fun n i => ∃ k : Nat, k ≤ s.size ∧ i = .int .i64 k ∧ ∃ v : Int, n = .int .u32 v ∧ Hid (v = crcL 4294967295 ((bn s).take k))) (fun _ i => s.size - (intOf i).toNat)
  case atStart => exact ⟨0, Nat.zero_le _, rfl, _, rfl, hidI (by simp [crcL])⟩
  case round =>
    obtain ⟨k, hk, rfl, v, rfl, hv⟩ := hrel
    have hvi : Hid (in32 v) := by
      show in32 v
      rw [hv.out]; exact crcL_in _ _ (by unfold in32; omega) (fun b hb => bn_mem s b (List.mem_of_mem_take hb))
    by_cases hlt : k < s.size
    · have HK := hidI hlt
      go_wp2
      go_loop [3, 16] (fun n i => ∃ j : Nat, j ≤ 8 ∧ i = .int .i64 j ∧ ∃ u : Int, n = .int .u32 u ∧ 0 ≤ u ∧ u ≤ 4294967295 ∧ Hid (crcN (8 - j) u = crcL 4294967295 ((bn s).take (k + 1)))) (fun _ i => 8 - (intOf i).toNat)
      case atStart =>
        have hb := s[k].toNat_lt
        have e : (s[k].toNat : Int) % 4294967296 = (s[k].toNat : Int) := by omega
        have hx := xor_in v (s[k].toNat : Int) hvi.out (by unfold in32; omega)
        refine ⟨0, by decide, rfl, _, rfl, ?_, ?_, hidI ?_⟩
        · show 0 ≤ Go.bits .xor .u32 v ((s[k].toNat : Int) % 4294967296)
          rw [e]; exact hx.1
        · show Go.bits .xor .u32 v ((s[k].toNat : Int) % 4294967296) ≤ _
          rw [e]; exact hx.2
        · show crcN 8 (Go.bits .xor .u32 v ((s[k].toNat : Int) % 4294967296)) = _
          rw [take_bn s k hlt, crcL_snoc, ← hv.out, e]; rfl
      case round =>
        obtain ⟨j, hj, rfl, u, rfl, hu0, hu1, hu⟩ := hrel
        by_cases hl8 : j < 8
        · have hst := crcB_eq u ⟨hu0, hu1⟩
          have hin := crcB_in u ⟨hu0, hu1⟩
          have HST := hidI hst
          have HIN := hidI hin
          clear hst hin
          go_wp2
          refine ⟨⟨j + 1, by omega, by simp, _, rfl, ?_, ?_, ?_⟩, ?_⟩
          · rw [HST.out]; exact HIN.out.1
          · rw [HST.out]; exact HIN.out.2
          · rw [HST.out]; exact hidI (by rw [← hu.out, show 8 - j = (8 - (j + 1)) + 1 by omega]; rfl)
          · simp [intOf]; omega
        · have e : j = 8 := by omega
          have HU : Hid (u = crcL 4294967295 ((bn s).take (k + 1))) := by
            show _ = _
            rw [← hu.out, e]; rfl
          clear e
          go_wp2
          refine ⟨⟨k + 1, HK.out, by simp, _, rfl, HU⟩, ?_⟩
          have := HK.out
          simp [intOf]; omega
    · have HE : Hid (Go.bits .xor .u32 IntKind.u32.max v = crcF s) := by
        show Go.bits .xor .u32 4294967295 v = crcF s
        rw [xor_comm32 _ _ (by unfold in32; omega) hvi.out, crcF, hv.out, List.take_of_length_le (by rw [bn_len]; omega)]
      go_wp2
      go_ret
      exact ⟨by rw [← HE.out]; rfl, rfl⟩
end Go.Proofs.Ytckfkbmefdmedaa
namespace Go.Proofs.Ytckfkbmefdmedaa.Q
open Go.RowKit Go.Proofs.YtckfkbmefdmedaaW.PrintWords Go.Proofs.YtckfkbmefdmedaaW.PrintLast Go.Proofs.Ytckfkbmefdmedaa
def block_crc.f (a0 : ByteArray) : Option Int := if a0.size ≤ 1000000 then some (crcF a0) else none
theorem block_crc.calls (a0 : ByteArray) (r : Int) (w : World) (h : block_crc.f a0 = some r) : Calls Try.prog 100 #[.string a0] w fun e w' => e = .returned (.int .u32 r) ∧ Drawn0 w w' := by
  unfold block_crc.f at h
  split at h
  · rename_i hb
    cases h
    exact (crc_any a0 w hb).mono fun e w' ⟨he, hw⟩ => ⟨he, hw ▸ Drawn0.refl w⟩
  · cases h
end Go.Proofs.Ytckfkbmefdmedaa.Q
namespace Go.Proofs
open Go.Shelf
def Try.lays169_ren : Go.Shelf.Ren := ⟨fun | 169 => 68 | n => n, fun | 70 => 111 | 9 => 9 | 0 => 0 | 72 => 113 | 37 => 42 | 127 => 163 | 3 => 3 | 5 => 5 | n => n, fun | n => n⟩
theorem Try.lays169 : Go.Proofs.Lays.n169 Try.prog Try.lays169_ren := {
  mixed := by kernel_rfl
  f169 := Try.func68.trans (congrArg some (by kernel_rfl))
  t0 := Try.underlying0
  a0 := Try.isAgg0
  z0 := Try.sizeOf0
  v0 := Try.zeroValue0
  t3 := Try.underlying3
  a3 := Try.isAgg3
  z3 := Try.sizeOf3
  v3 := Try.zeroValue3
  t9 := Try.underlying9
  a9 := Try.isAgg9
  z9 := Try.sizeOf9
  v9 := Try.zeroValue9
  t37 := Try.underlying42
  a37 := Try.isAgg42
  z37 := Try.sizeOf42
  v37 := Try.zeroValue42
  t70 := Try.underlying111
  a70 := Try.isAgg111
  z70 := Try.sizeOf111
  v70 := Try.zeroValue111
  t72 := Try.underlying113
  a72 := Try.isAgg113
  z72 := Try.sizeOf113
  v72 := Try.zeroValue113
  t127 := Try.underlying163
  a127 := Try.isAgg163
  z127 := Try.sizeOf163
  v127 := Try.zeroValue163 }
theorem Try.Builder_Extra_169 : Builder.Extra Try.prog Try.lays169_ren := {
  sizeBuilder := by kernel_rfl
  liesBuilder := by kernel_rfl
  t5 := Try.underlying5
  a5 := Try.isAgg5
  z5 := Try.sizeOf5
  v5 := Try.zeroValue5
  infoByte := by kernel_rfl
  cellsByte := by kernel_rfl
  sizeByte := by kernel_rfl
  neB5 := by decide }
open Go.RowKit in
theorem Try.Builder_String_any (B b : Nat) (l : List UInt8) (w : World) (h : Lib.IsBuilder 113 5 B b (Lib.byteCells l) w) (hBw : B ≤ w.heap.size) :
    Calls Try.prog 68 #[.pointer (some ⟨b, 0, none⟩)] w fun e w' => e = .returned (.string ⟨l.toArray⟩) ∧ Below B w w' := Any.Builder_String_any Try.lays169 Try.Builder_Extra_169 B b l w h hBw
def Try.lays212_ren : Go.Shelf.Ren := ⟨fun | 212 => 70 | 263 => 102 | 264 => 103 | n => n, fun | 46 => 121 | 51 => 115 | 146 => 164 | 53 => 126 | 148 => 166 | n => n, fun | n => n⟩
theorem Try.lays212 : Go.Proofs.Lays.n212 Try.prog Try.lays212_ren := {
  mixed := by kernel_rfl
  f212 := Try.func70.trans (congrArg some (by kernel_rfl))
  f263 := Try.func102.trans (congrArg some (by kernel_rfl))
  f264 := Try.func103.trans (congrArg some (by kernel_rfl))
  t46 := Try.underlying121
  a46 := Try.isAgg121
  z46 := Try.sizeOf121
  v46 := Try.zeroValue121
  t51 := Try.underlying115
  a51 := Try.isAgg115
  z51 := Try.sizeOf115
  v51 := Try.zeroValue115
  t53 := Try.underlying126
  a53 := Try.isAgg126
  z53 := Try.sizeOf126
  v53 := Try.zeroValue126
  t146 := Try.underlying164
  a146 := Try.isAgg164
  z146 := Try.sizeOf164
  v146 := Try.zeroValue164
  t148 := Try.underlying166
  a148 := Try.isAgg166
  z148 := Try.sizeOf166
  v148 := Try.zeroValue166 }
open Go.RowKit Go.Lib in
theorem Try.bits_Mul (x y : Nat) (hx : x < 18446744073709551616) (hy : y < 18446744073709551616) (w : World) :
    Calls Try.prog 70 #[.int .u64 x, .int .u64 y] w fun e w' => e = .returned (.tuple #[.int .u64 ((x * y / 18446744073709551616 : Nat) : Int), .int .u64 ((x * y % 18446744073709551616 : Nat) : Int)]) ∧ w' = w := Any.bits_Mul Try.lays212 x y hx hy w
def Try.lays105_ren : Go.Shelf.Ren := ⟨fun | 105 => 17 | 212 => 70 | 99 => 71 | 165 => 72 | 166 => 66 | 170 => 73 | 169 => 68 | 263 => 102 | 264 => 103 | 206 => 104 | 240 => 101 | 241 => 105 | 276 => 117 | 277 => 118 | n => n, fun | 9 => 9 | 3 => 3 | 4 => 4 | 20 => 20 | 0 => 0 | 46 => 121 | 109 => 122 | 5 => 5 | 72 => 113 | 76 => 118 | 51 => 115 | 146 => 164 | 53 => 126 | 148 => 166 | 70 => 111 | 37 => 42 | 75 => 117 | 127 => 163 | 164 => 183 | 80 => 53 | n => n, fun | n => n⟩
theorem Try.lays105 : Go.Proofs.Lays.n105 Try.prog Try.lays105_ren := {
  mixed := by kernel_rfl
  f99 := Try.func71.trans (congrArg some (by kernel_rfl))
  f105 := Try.func17.trans (congrArg some (by kernel_rfl))
  f165 := Try.func72.trans (congrArg some (by kernel_rfl))
  f166 := Try.func66.trans (congrArg some (by kernel_rfl))
  f169 := Try.func68.trans (congrArg some (by kernel_rfl))
  f170 := Try.func73.trans (congrArg some (by kernel_rfl))
  f206 := Try.func104.trans (congrArg some (by kernel_rfl))
  f212 := Try.func70.trans (congrArg some (by kernel_rfl))
  f240 := Try.func101.trans (congrArg some (by kernel_rfl))
  f241 := Try.func105.trans (congrArg some (by kernel_rfl))
  f263 := Try.func102.trans (congrArg some (by kernel_rfl))
  f264 := Try.func103.trans (congrArg some (by kernel_rfl))
  f276 := Try.func117.trans (congrArg some (by kernel_rfl))
  f277 := Try.func118.trans (congrArg some (by kernel_rfl))
  t0 := Try.underlying0
  a0 := Try.isAgg0
  z0 := Try.sizeOf0
  v0 := Try.zeroValue0
  t3 := Try.underlying3
  a3 := Try.isAgg3
  z3 := Try.sizeOf3
  v3 := Try.zeroValue3
  t4 := Try.underlying4
  a4 := Try.isAgg4
  z4 := Try.sizeOf4
  v4 := Try.zeroValue4
  t5 := Try.underlying5
  a5 := Try.isAgg5
  z5 := Try.sizeOf5
  v5 := Try.zeroValue5
  t9 := Try.underlying9
  a9 := Try.isAgg9
  z9 := Try.sizeOf9
  v9 := Try.zeroValue9
  t20 := Try.underlying20
  a20 := Try.isAgg20
  z20 := Try.sizeOf20
  v20 := Try.zeroValue20
  t37 := Try.underlying42
  a37 := Try.isAgg42
  z37 := Try.sizeOf42
  v37 := Try.zeroValue42
  t46 := Try.underlying121
  a46 := Try.isAgg121
  z46 := Try.sizeOf121
  v46 := Try.zeroValue121
  t51 := Try.underlying115
  a51 := Try.isAgg115
  z51 := Try.sizeOf115
  v51 := Try.zeroValue115
  t53 := Try.underlying126
  a53 := Try.isAgg126
  z53 := Try.sizeOf126
  v53 := Try.zeroValue126
  t70 := Try.underlying111
  a70 := Try.isAgg111
  z70 := Try.sizeOf111
  v70 := Try.zeroValue111
  t72 := Try.underlying113
  a72 := Try.isAgg113
  z72 := Try.sizeOf113
  v72 := Try.zeroValue113
  t75 := Try.underlying117
  a75 := Try.isAgg117
  z75 := Try.sizeOf117
  v75 := Try.zeroValue117
  t76 := Try.underlying118
  a76 := Try.isAgg118
  z76 := Try.sizeOf118
  v76 := Try.zeroValue118
  t109 := Try.underlying122
  a109 := Try.isAgg122
  z109 := Try.sizeOf122
  v109 := Try.zeroValue122
  t127 := Try.underlying163
  a127 := Try.isAgg163
  z127 := Try.sizeOf163
  v127 := Try.zeroValue163
  t146 := Try.underlying164
  a146 := Try.isAgg164
  z146 := Try.sizeOf164
  v146 := Try.zeroValue164
  t148 := Try.underlying166
  a148 := Try.isAgg166
  z148 := Try.sizeOf166
  v148 := Try.zeroValue166
  t164 := Try.underlying183
  a164 := Try.isAgg183
  z164 := Try.sizeOf183
  v164 := Try.zeroValue183 }
theorem Try.Builder_Extra_105 : Builder.Extra Try.prog Try.lays105_ren := {
  sizeBuilder := by kernel_rfl
  liesBuilder := by kernel_rfl
  t5 := Try.underlying5
  a5 := Try.isAgg5
  z5 := Try.sizeOf5
  v5 := Try.zeroValue5
  infoByte := by kernel_rfl
  cellsByte := by kernel_rfl
  sizeByte := by kernel_rfl
  neB5 := by decide }
open Go.RowKit Go.Lib in
theorem Try.strings_Repeat (s : ByteArray) (c : Nat) (w : World) (hc : c ≤ 9223372036854775807) (hlen : s.size * c ≤ 140737488355328) :
    Calls Try.prog 17 #[.string s, .int .i64 c] w fun e w' => e = .returned (.string ⟨(Lib.repeatL s.data.toList c).toArray⟩) ∧ Below w.heap.size w w' := Any.strings_Repeat Try.lays105 Try.Builder_Extra_105 s c w hc hlen
end Go.Proofs
namespace Go.Proofs.Ytckfkbmefdmedaa.Q
open Go.RowKit Go.Proofs.YtckfkbmefdmedaaW.PrintWords Go.Proofs.YtckfkbmefdmedaaW.PrintLast
set_option linter.unusedVariables false
set_option linter.unusedSimpArgs false
def strings_Repeat.f (a0 : ByteArray) (a1 : Int) : Option ByteArray := if 0 ≤ a1 ∧ a1 ≤ 9223372036854775807 ∧ a0.size * a1.toNat ≤ 140737488355328 then some ⟨(Lib.repeatL a0.data.toList a1.toNat).toArray⟩ else none
theorem strings_Repeat.calls (a0 : ByteArray) (a1 : Int) (r : ByteArray) (w : World) (h : strings_Repeat.f a0 a1 = some r) : Calls Try.prog 17 #[.string a0, .int .i64 a1] w fun e w' => e = .returned (.string r) ∧ Below w.heap.size w w' := by
  unfold strings_Repeat.f at h
  split at h
  · rename_i hb
    cases h
    have := Go.Proofs.Try.strings_Repeat a0 a1.toNat w (by omega) hb.2.2
    rwa [Int.toNat_of_nonneg hb.1] at this
  · cases h
end Go.Proofs.Ytckfkbmefdmedaa.Q
namespace Go.Proofs.Ytckfkbmefdmedaa
open Go.RowKit Go.Proofs.Kq
set_option linter.unusedVariables false
set_option linter.unusedSimpArgs false
theorem low4_take (n : Int) : (strOfNums (lowI 8 n)).extract 0 4 = strOfNums (lowI 4 n) := by
  rw [sn_take]; rfl
set_option maxRecDepth 100000 in
set_option maxHeartbeats 2000000 in
theorem blow_any (n : Int) (w : World) (h0 : 0 ≤ n) (h1 : n ≤ 4294967295) : Calls Try.prog 99 #[.int .u32 n] w fun e w' => e = .returned (.string (strOfNums (lowI 4 n))) ∧ Below w.heap.size w w' := by
  have hu : IntKind.u64.wrap n = n := by rw [IntKind.wrap_u64]; omega
  have hl : (strOfNums (lowI 8 n)).size = 8 := by rw [sn_size, lowI_len]
  have HU := hidI hu
  have HT := hidI (low4_take n)
  clear hu
  go_enter Try.func99, Try.ntmps99
  go_wp2_with fail
  refine (wint_wg n (WG.new (Below.refl _ w)) (by simp)).mono ?_
  rintro e w1 ⟨rfl, h2⟩
  simp only []
  go_wp2_with fail
  refine (wbytes_wg h2).mono ?_
  rintro e w3 ⟨rfl, rfl⟩
  obtain ⟨v, _, _, hb⟩ := h2
  rw [List.nil_append, HU.out]
  simp only [Bool.false_eq_true, if_false]
  generalize strOfNums (lowI 8 n) = z at *
  go_wp2
  go_ret
  exact ⟨by rw [← HT.out]; rfl, hb⟩
end Go.Proofs.Ytckfkbmefdmedaa
namespace Go.Proofs.Ytckfkbmefdmedaa.Q
open Go.RowKit Go.Proofs.YtckfkbmefdmedaaW.PrintWords Go.Proofs.YtckfkbmefdmedaaW.PrintLast Go.Proofs.Ytckfkbmefdmedaa
def block_low.f (a0 : Int) : Option ByteArray := if 0 ≤ a0 ∧ a0 ≤ 4294967295 then some (strOfNums (lowI 4 a0)) else none
theorem block_low.calls (a0 : Int) (r : ByteArray) (w : World) (h : block_low.f a0 = some r) : Calls Try.prog 99 #[.int .u32 a0] w fun e w' => e = .returned (.string r) ∧ Below w.heap.size w w' := by
  unfold block_low.f at h
  split at h
  · rename_i hb
    cases h
    exact blow_any a0 w hb.1 hb.2
  · cases h
end Go.Proofs.Ytckfkbmefdmedaa.Q
namespace Go.Proofs.Ytckfkbmefdmedaa.Q
open Go.RowKit Go.Proofs.YtckfkbmefdmedaaW.PrintWords Go.Proofs.YtckfkbmefdmedaaW.PrintLast Go.Proofs.YtckfkbmefdmedaaW.PrintMore
attribute [local go_sem] max2_int min2_int max_two min_two max_three min_three max_four min_four   -- for this text's walks alone
set_option linter.unusedVariables false
set_option linter.unusedSimpArgs false
def block_one.f (a0 : Int) (a1 : Int) (a2 : Int) (a3 : ByteArray) : Option (ByteArray) := (block_low.f ((a0 + 1) % 4294967296)).bind fun t108 => ((some (([(a1) % 256, (a2) % 256, ((a3.size : Int)) % 256] : List Int) : List Int)).bind fun y109 => (if t108.size + (strOfNums y109).size ≤ 9223372036854775807 then (if (t108 ++ (strOfNums y109)).size + a3.size ≤ 9223372036854775807 then ((strings_Repeat.f (⟨#[0]⟩ : ByteArray) (wrap64 (49 - (a3.size : Int)))).bind fun t112 => (if ((t108 ++ (strOfNums y109)) ++ a3).size + t112.size ≤ 9223372036854775807 then ((block_crc.f (((t108 ++ (strOfNums y109)) ++ a3) ++ t112)).bind fun t113 => ((block_low.f t113).bind fun t114 => (if (((t108 ++ (strOfNums y109)) ++ a3) ++ t112).size + t114.size ≤ 9223372036854775807 then (if ((((t108 ++ (strOfNums y109)) ++ a3) ++ t112) ++ t114).size + t108.size ≤ 9223372036854775807 then (some (((((t108 ++ (strOfNums y109)) ++ a3) ++ t112) ++ t114) ++ t108)) else (none)) else (none)))) else (none))) else (none)) else (none)))
def block_one.T2 : Bool × List (List Nat × List Nat) := (true, [([], []), ([], []), ([1], [1]), ([], []), ([3], [3]), ([], []), ([5], [5]), ([6], [6]), ([2, 4, 7], [2, 4, 7]), ([8], [8]), ([0, 9], [0, 9]), ([], []), ([10, 11], [10, 11]), ([], []), ([13], [13]), ([14], [14]), ([15], [15]), ([12, 16], [12, 16]), ([17, 16, 0, 1, 2, 3, 4, 5, 6, 7, 8, 9, 10, 11, 12, 13, 14, 15, 16, 17], [17])])
def block_one.B2 : List Nat := [0, 0, 2, 0, 8, 0, 32, 96, 254, 510, 1023, 0, 4095, 0, 8192, 24576, 57344, 131071, 262143]
theorem block_one.tab2 : rtab .any (opsOf Try.f65 2) = block_one.T2 := by kernel_rfl
theorem block_one.bits2 : waitsOk block_one.T2.2 block_one.B2 = true := by kernel_rfl
set_option maxHeartbeats 8000000 in
set_option maxRecDepth 100000 in
theorem block_one.calls (a0 : Int) (a1 : Int) (a2 : Int) (a3 : ByteArray) (r : ByteArray) (w : World) (h : block_one.f a0 a1 a2 a3 = some r) :
  Calls Try.prog 65 #[.int .u32 a0, .int .i64 a1, .int .i64 a2, .string a3] w fun e w' => e = .returned (.string r) ∧ Below w.heap.size w w' := by
 have HB := Aside0.mk (Below.refl w.heap.size w)
 have H : ((block_low.f ((a0 + 1) % 4294967296)).bind fun t108 => ((some (([(a1) % 256, (a2) % 256, ((a3.size : Int)) % 256] : List Int) : List Int)).bind fun y109 => (if t108.size + (strOfNums y109).size ≤ 9223372036854775807 then (if (t108 ++ (strOfNums y109)).size + a3.size ≤ 9223372036854775807 then ((strings_Repeat.f (⟨#[0]⟩ : ByteArray) (wrap64 (49 - (a3.size : Int)))).bind fun t112 => (if ((t108 ++ (strOfNums y109)) ++ a3).size + t112.size ≤ 9223372036854775807 then ((block_crc.f (((t108 ++ (strOfNums y109)) ++ a3) ++ t112)).bind fun t113 => ((block_low.f t113).bind fun t114 => (if (((t108 ++ (strOfNums y109)) ++ a3) ++ t112).size + t114.size ≤ 9223372036854775807 then (if ((((t108 ++ (strOfNums y109)) ++ a3) ++ t112) ++ t114).size + t108.size ≤ 9223372036854775807 then (some (((((t108 ++ (strOfNums y109)) ++ a3) ++ t112) ++ t114) ++ t108)) else (none)) else (none)))) else (none))) else (none)) else (none)))) = some r := h
 clear h
 replace H := Option.bind_eq_some_iff.mp H
 obtain ⟨t108, A50, H⟩ := H
 replace H : ((some (([(a1) % 256, (a2) % 256, ((a3.size : Int)) % 256] : List Int) : List Int)).bind fun y109 => (if t108.size + (strOfNums y109).size ≤ 9223372036854775807 then (if (t108 ++ (strOfNums y109)).size + a3.size ≤ 9223372036854775807 then ((strings_Repeat.f (⟨#[0]⟩ : ByteArray) (wrap64 (49 - (a3.size : Int)))).bind fun t112 => (if ((t108 ++ (strOfNums y109)) ++ a3).size + t112.size ≤ 9223372036854775807 then ((block_crc.f (((t108 ++ (strOfNums y109)) ++ a3) ++ t112)).bind fun t113 => ((block_low.f t113).bind fun t114 => (if (((t108 ++ (strOfNums y109)) ++ a3) ++ t112).size + t114.size ≤ 9223372036854775807 then (if ((((t108 ++ (strOfNums y109)) ++ a3) ++ t112) ++ t114).size + t108.size ≤ 9223372036854775807 then (some (((((t108 ++ (strOfNums y109)) ++ a3) ++ t112) ++ t114) ++ t108)) else (none)) else (none)))) else (none))) else (none)) else (none))) = some r := H
 have A5 := Aside0.mk A50
 clear A50
 obtain ⟨y109, hy109⟩ : ∃ y_ : List Int, y_ = (([(a1) % 256, (a2) % 256, ((a3.size : Int)) % 256] : List Int)) := ⟨_, rfl⟩
 replace H : (if t108.size + (strOfNums y109).size ≤ 9223372036854775807 then (if (t108 ++ (strOfNums y109)).size + a3.size ≤ 9223372036854775807 then ((strings_Repeat.f (⟨#[0]⟩ : ByteArray) (wrap64 (49 - (a3.size : Int)))).bind fun t112 => (if ((t108 ++ (strOfNums y109)) ++ a3).size + t112.size ≤ 9223372036854775807 then ((block_crc.f (((t108 ++ (strOfNums y109)) ++ a3) ++ t112)).bind fun t113 => ((block_low.f t113).bind fun t114 => (if (((t108 ++ (strOfNums y109)) ++ a3) ++ t112).size + t114.size ≤ 9223372036854775807 then (if ((((t108 ++ (strOfNums y109)) ++ a3) ++ t112) ++ t114).size + t108.size ≤ 9223372036854775807 then (some (((((t108 ++ (strOfNums y109)) ++ a3) ++ t112) ++ t114) ++ t108)) else (none)) else (none)))) else (none))) else (none)) else (none)) = some r := by first | (rw [hy109]; with_reducible exact H) | (have H2_ := (Option.bind_some _ _).symm.trans H; rw [hy109]; with_reducible exact H2_) | (have H2_ := (Option.bind_some _ _).symm.trans H; with_reducible exact H2_) | with_reducible exact H | (rw [hy109]; exact H) | exact H
 have Ny109 := Aside0.mk hy109
 clear hy109
 by_cases c6 : t108.size + (strOfNums y109).size ≤ 9223372036854775807
 ·rw [if_pos c6] at H
  have c6b0 := eq_true c6
  have c6b1 : decide (t108.size + (strOfNums y109).size ≤ 9223372036854775807) = true := decide_eq_true c6
  try have c6b2 : (9223372036854775807 < t108.size + (strOfNums y109).size) = False := eq_false (Nat.not_lt.2 c6)
  by_cases c7 : (t108 ++ (strOfNums y109)).size + a3.size ≤ 9223372036854775807
  ·rw [if_pos c7] at H
   have c7b0 := eq_true c7
   have c7b1 : decide ((t108 ++ (strOfNums y109)).size + a3.size ≤ 9223372036854775807) = true := decide_eq_true c7
   try have c7b2 : (9223372036854775807 < (t108 ++ (strOfNums y109)).size + a3.size) = False := eq_false (Nat.not_lt.2 c7)
   try (have c7b3 := c7b2; simp only [ByteArray.size_append] at c7b3)
   replace H := Option.bind_eq_some_iff.mp H
   obtain ⟨t112, A80, H⟩ := H
   replace H : (if ((t108 ++ (strOfNums y109)) ++ a3).size + t112.size ≤ 9223372036854775807 then ((block_crc.f (((t108 ++ (strOfNums y109)) ++ a3) ++ t112)).bind fun t113 => ((block_low.f t113).bind fun t114 => (if (((t108 ++ (strOfNums y109)) ++ a3) ++ t112).size + t114.size ≤ 9223372036854775807 then (if ((((t108 ++ (strOfNums y109)) ++ a3) ++ t112) ++ t114).size + t108.size ≤ 9223372036854775807 then (some (((((t108 ++ (strOfNums y109)) ++ a3) ++ t112) ++ t114) ++ t108)) else (none)) else (none)))) else (none)) = some r := H
   have A8 := Aside0.mk A80
   clear A80
   by_cases c9 : ((t108 ++ (strOfNums y109)) ++ a3).size + t112.size ≤ 9223372036854775807
   ·rw [if_pos c9] at H
    have c9b0 := eq_true c9
    have c9b1 : decide (((t108 ++ (strOfNums y109)) ++ a3).size + t112.size ≤ 9223372036854775807) = true := decide_eq_true c9
    try have c9b2 : (9223372036854775807 < ((t108 ++ (strOfNums y109)) ++ a3).size + t112.size) = False := eq_false (Nat.not_lt.2 c9)
    try (have c9b3 := c9b2; simp only [ByteArray.size_append] at c9b3)
    replace H := Option.bind_eq_some_iff.mp H
    obtain ⟨t113, A100, H⟩ := H
    replace H : ((block_low.f t113).bind fun t114 => (if (((t108 ++ (strOfNums y109)) ++ a3) ++ t112).size + t114.size ≤ 9223372036854775807 then (if ((((t108 ++ (strOfNums y109)) ++ a3) ++ t112) ++ t114).size + t108.size ≤ 9223372036854775807 then (some (((((t108 ++ (strOfNums y109)) ++ a3) ++ t112) ++ t114) ++ t108)) else (none)) else (none))) = some r := H
    have A10 := Aside0.mk A100
    clear A100
    replace H := Option.bind_eq_some_iff.mp H
    obtain ⟨t114, A110, H⟩ := H
    replace H : (if (((t108 ++ (strOfNums y109)) ++ a3) ++ t112).size + t114.size ≤ 9223372036854775807 then (if ((((t108 ++ (strOfNums y109)) ++ a3) ++ t112) ++ t114).size + t108.size ≤ 9223372036854775807 then (some (((((t108 ++ (strOfNums y109)) ++ a3) ++ t112) ++ t114) ++ t108)) else (none)) else (none)) = some r := H
    have A11 := Aside0.mk A110
    clear A110
    by_cases c12 : (((t108 ++ (strOfNums y109)) ++ a3) ++ t112).size + t114.size ≤ 9223372036854775807
    ·rw [if_pos c12] at H
     have c12b0 := eq_true c12
     have c12b1 : decide ((((t108 ++ (strOfNums y109)) ++ a3) ++ t112).size + t114.size ≤ 9223372036854775807) = true := decide_eq_true c12
     try have c12b2 : (9223372036854775807 < (((t108 ++ (strOfNums y109)) ++ a3) ++ t112).size + t114.size) = False := eq_false (Nat.not_lt.2 c12)
     try (have c12b3 := c12b2; simp only [ByteArray.size_append] at c12b3)
     by_cases c13 : ((((t108 ++ (strOfNums y109)) ++ a3) ++ t112) ++ t114).size + t108.size ≤ 9223372036854775807
     ·rw [if_pos c13] at H
      have c13b0 := eq_true c13
      have c13b1 : decide (((((t108 ++ (strOfNums y109)) ++ a3) ++ t112) ++ t114).size + t108.size ≤ 9223372036854775807) = true := decide_eq_true c13
      try have c13b2 : (9223372036854775807 < ((((t108 ++ (strOfNums y109)) ++ a3) ++ t112) ++ t114).size + t108.size) = False := eq_false (Nat.not_lt.2 c13)
      try (have c13b3 := c13b2; simp only [ByteArray.size_append] at c13b3)
      obtain rfl := Option.some.inj H
      go_enter Try.func65, Try.ntmps65
      try go_wp2_with (first | ((with_reducible refine gate_callee (f := 99) rfl ?_); refine goesL_ (some 13) rfl rfl Try.func99 (by kernel_rfl) rfl #[.int .u32 ((a0 + 1) % 4294967296)] rfl (by (try simp only [List.map_toArray, List.map_cons, List.map_nil]); first | done | rfl | (simp only [List.length_drop, List.length_take]; rfl)) ?_; (with_reducible refine (block_low.calls ((a0 + 1) % 4294967296) t108 _ A5.out).mono ?_); rintro e w14 ⟨rfl, hb⟩; refine ⟨_, rfl, ?_⟩; have n0_ := Aside0.mk (below_step (by repeat (first | (with_reducible first | exact HB.out | apply below_alloc | apply pw_below_drewN | apply below_drew1) | exact HB.out)) hb); clear HB; have HB := n0_; clear n0_; (try clear hb); (try clear hb2); (try clear hk); (try clear hi)))
      have n0_ := Aside0.mk (below_drew1 HB.out)
      clear HB
      have HB := n0_
      clear n0_
      refine start_ (n := 19) (S := fun w' => True) (ds := []) #[false, false, false, false, false, false, false, false, false, false, false, false, false, false, false, false, false, false, false] (by kernel_rfl) rfl rfl trivial (fun hHeld => ?_); refine with_tabW block_one.tab2 block_one.bits2 (fun HT_ HW_ => ?_)
      generalize w14.drew = w15 at HB hHeld ⊢
      refine pure_ (i := 0) (N := some 14) (v := ?_) (a' := ?_) #[true, false, false, false, false, false, false, false, false, false, false, false, false, false, false, false, false, false, false] rfl rfl (any_of HT_.out (by kernel_rfl)) (fun _ _ _ h => h) (Or.inl ⟨by rfl, ?_⟩) ?_ ?_
      rotate_left
      ·intro w'
       go_simp
       with_reducible rfl
      rotate_left
      ·simp only [Act.put, List.setIfInBounds_toArray, List.set_cons_zero, List.set_cons_succ, i64_w, i32_w]
       rfl
      refine pure_ (i := 1) (N := some 15) (v := ?_) (a' := ?_) #[true, true, false, false, false, false, false, false, false, false, false, false, false, false, false, false, false, false, false] rfl rfl (any_of HT_.out (by kernel_rfl)) (fun _ _ _ h => h) (Or.inl ⟨by rfl, ?_⟩) ?_ ?_
      rotate_left
      ·intro w'
       go_simp
       with_reducible rfl
      rotate_left
      ·simp only [Act.put, List.setIfInBounds_toArray, List.set_cons_zero, List.set_cons_succ, i64_w, i32_w]
       rfl
      refine pure_ (i := 2) (N := some 16) (v := ?_) (a' := ?_) #[true, true, true, false, false, false, false, false, false, false, false, false, false, false, false, false, false, false, false] rfl rfl (any_of HT_.out (by kernel_rfl)) (fun _ _ _ h => h) (Or.inl ⟨by rfl, ?_⟩) ?_ ?_
      rotate_left
      ·intro w'
       go_simp
       with_reducible rfl
      rotate_left
      ·simp only [Act.put, List.setIfInBounds_toArray, List.set_cons_zero, List.set_cons_succ, i64_w, i32_w]
       rfl
      refine pure_ (i := 3) (N := some 17) (v := ?_) (a' := ?_) #[true, true, true, true, false, false, false, false, false, false, false, false, false, false, false, false, false, false, false] rfl rfl (any_of HT_.out (by kernel_rfl)) (fun _ _ _ h => h) (Or.inl ⟨by rfl, ?_⟩) ?_ ?_
      rotate_left
      ·intro w'
       go_simp
       with_reducible rfl
      rotate_left
      ·simp only [Act.put, List.setIfInBounds_toArray, List.set_cons_zero, List.set_cons_succ, i64_w, i32_w]
       rfl
      refine pure_ (i := 4) (N := some 18) (v := ?_) (a' := ?_) #[true, true, true, true, true, false, false, false, false, false, false, false, false, false, false, false, false, false, false] rfl rfl (any_of HT_.out (by kernel_rfl)) (fun _ _ _ h => h) (Or.inl ⟨by rfl, ?_⟩) ?_ ?_
      rotate_left
      ·intro w'
       go_simp
       with_reducible rfl
      rotate_left
      ·simp only [Act.put, List.setIfInBounds_toArray, List.set_cons_zero, List.set_cons_succ, i64_w, i32_w]
       rfl
      refine pure_ (i := 5) (N := some 19) (v := ?_) (a' := ?_) #[true, true, true, true, true, true, false, false, false, false, false, false, false, false, false, false, false, false, false] rfl rfl (any_of HT_.out (by kernel_rfl)) (fun _ _ _ h => h) (Or.inl ⟨by rfl, ?_⟩) ?_ ?_
      rotate_left
      ·intro w'
       go_simp
       with_reducible rfl
      rotate_left
      ·simp only [Act.put, List.setIfInBounds_toArray, List.set_cons_zero, List.set_cons_succ, i64_w, i32_w]
       rfl
      refine pure_ (i := 6) (N := some 20) (v := ?_) (a' := ?_) #[true, true, true, true, true, true, true, false, false, false, false, false, false, false, false, false, false, false, false] rfl rfl (any_of HT_.out (by kernel_rfl)) (fun _ _ _ h => h) (Or.inl ⟨by rfl, ?_⟩) ?_ ?_
      rotate_left
      ·intro w'
       go_simp
       with_reducible rfl
      rotate_left
      ·simp only [Act.put, List.setIfInBounds_toArray, List.set_cons_zero, List.set_cons_succ, i64_w, i32_w]
       rfl
      refine pure_ (i := 7) (N := some 21) (v := ?_) (a' := ?_) #[true, true, true, true, true, true, true, true, false, false, false, false, false, false, false, false, false, false, false] rfl rfl (any_of HT_.out (by kernel_rfl)) (fun _ _ _ h => h) (Or.inl ⟨by rfl, ?_⟩) ?_ ?_
      rotate_left
      ·intro w'
       go_simp
       with_reducible rfl
      rotate_left
      ·simp only [Act.put, List.setIfInBounds_toArray, List.set_cons_zero, List.set_cons_succ, i64_w, i32_w]
       rfl
      refine pure_ (i := 11) (N := some 25) (v := ?_) (a' := ?_) #[true, true, true, true, true, true, true, true, false, false, false, true, false, false, false, false, false, false, false] rfl rfl (any_of HT_.out (by kernel_rfl)) (fun _ _ _ h => h) (Or.inl ⟨by rfl, ?_⟩) ?_ ?_
      rotate_left
      ·intro w'
       go_simp
       with_reducible rfl
      rotate_left
      ·simp only [Act.put, List.setIfInBounds_toArray, List.set_cons_zero, List.set_cons_succ, i64_w, i32_w]
       rfl
      refine pure_ (i := 13) (N := some 27) (v := ?_) (a' := ?_) #[true, true, true, true, true, true, true, true, false, false, false, true, false, true, false, false, false, false, false] rfl rfl (any_of HT_.out (by kernel_rfl)) (fun _ _ _ h => h) (Or.inl ⟨by rfl, ?_⟩) ?_ ?_
      rotate_left
      ·intro w'
       go_simp
       with_reducible rfl
      rotate_left
      ·simp only [Act.put, List.setIfInBounds_toArray, List.set_cons_zero, List.set_cons_succ, i64_w, i32_w]
       rfl
      refine pure_ (i := 14) (N := some 28) (v := ?_) (a' := ?_) #[true, true, true, true, true, true, true, true, false, false, false, true, false, true, true, false, false, false, false] rfl rfl (any_of HT_.out (by kernel_rfl)) (fun _ _ _ h => h) (Or.inl ⟨by rfl, ?_⟩) ?_ ?_
      rotate_left
      ·intro w'
       go_simp
       with_reducible rfl
      rotate_left
      ·simp only [Act.put, List.setIfInBounds_toArray, List.set_cons_zero, List.set_cons_succ, i64_w, i32_w]
       rfl
      refine pure_ (i := 15) (N := some 29) (v := ?_) (a' := ?_) #[true, true, true, true, true, true, true, true, false, false, false, true, false, true, true, true, false, false, false] rfl rfl (any_of HT_.out (by kernel_rfl)) (fun _ _ _ h => h) (Or.inl ⟨by rfl, ?_⟩) ?_ ?_
      rotate_left
      ·intro w'
       go_simp
       with_reducible rfl
      rotate_left
      ·simp only [Act.put, List.setIfInBounds_toArray, List.set_cons_zero, List.set_cons_succ, i64_w, i32_w]
       rfl
      refine join_ (σ := Value) 2 #[true, true, true, true, true, true, true, true, true, true, true, true, true, true, true, true, true, false, false] (fun s_ => [(22, s_), (23, .string (strOfNums y109)), (30, .string t112), (24, .string (t108 ++ (strOfNums y109))), (26, .string ((t108 ++ (strOfNums y109)) ++ a3))]) (fun s_ w' => (Kd.R (Kd.int .u8) 5 w' w.heap.size (fun _ => True) s_ y109) ∧ (Below w.heap.size w w')) ?_ ?_
      rotate_left
      ·intro hCont
       refine two_ (i := 8) (j := 16) (Ni := some 22) (Nj := some 30) #[true, true, true, true, true, true, true, true, true, false, false, true, false, true, true, true, false, false, false] #[true, true, true, true, true, true, true, true, false, false, false, true, false, true, true, true, true, false, false] rfl rfl rfl rfl (two_of HT_.out (by kernel_rfl)) (by decide) (by decide) (fun K hK => ?_) (fun K hK => ?_)
       ·skip
        refine Kd.R_lit_step (Kd.int .u8) _ 5 ?hg (N := 22) ?hd (xs := ([(a1) % 256, (a2) % 256, ((a3.size : Int)) % 256] : List Int)) (inner := [.int .u8 ((a1) % 256), .int .u8 ((a2) % 256), .int .u8 (((a3.size : Int)) % 256)]) (ok := fun _ => True) (okp := fun _ => True) ?hr ?hp (fun _ hk => hk) trivial (Below.refl _ _) (Nat.le_refl _) (by simp) ?_; (case hd => rfl); (case hg => rfl); (case hr => first | (go_simp; done) | (go_simp; rfl)); (case hp => exact (Reps.one (show Kd.M (Kd.int .u8) _ _ _ ((a1) % 256) [.int .u8 ((a1) % 256)] from rfl) (Reps.one (show Kd.M (Kd.int .u8) _ _ _ ((a2) % 256) [.int .u8 ((a2) % 256)] from rfl) (Reps.one (show Kd.M (Kd.int .u8) _ _ _ (((a3.size : Int)) % 256) [.int .u8 (((a3.size : Int)) % 256)] from rfl) (Reps.none _ _)))))
        intro v110 w16 ho17 hb hg_ hnew_
        clear hg_ hnew_
        (first | rw [← Ny109.out] at ho17 | (simp only [Int.reduceToNat] at ho17; rw [← Ny109.out] at ho17))
        have n0_ := Aside0.mk (Kd.R_lower ho17 (below_size (by repeat (first | (with_reducible first | exact HB.out | apply below_alloc | apply pw_below_drewN | apply below_drew1) | exact HB.out))))
        have n1_ := Aside0.mk (below_step (by repeat (first | (with_reducible first | exact HB.out | apply below_alloc | apply pw_below_drewN | apply below_drew1) | exact HB.out)) hb)
        clear HB
        have HO111 := n0_
        have HB := n1_
        clear n0_ n1_
        clear hb ho17
        refine hK.out _ _ trivial (fun hHeld => ?_)
        clear hK K
        refine norm_ (a' := ?_) ?_ ?_
        rotate_left
        ·show Act.put _ (some 22) _ = _
         simp only [Act.put, List.setIfInBounds_toArray, List.set_cons_zero, List.set_cons_succ, i64_w, i32_w]
         rfl
        refine two_ (i := 9) (j := 16) (Ni := some 23) (Nj := some 30) #[true, true, true, true, true, true, true, true, true, true, false, true, false, true, true, true, false, false, false] #[true, true, true, true, true, true, true, true, true, false, false, true, false, true, true, true, true, false, false] rfl rfl rfl rfl (two_of HT_.out (by kernel_rfl)) (by decide) (by decide) (fun K hK => ?_) (fun K hK => ?_)
        ·skip
         have hcv18 := own_string (P := Try.prog) Try.underlying42 Try.underlying5 Try.underlying9 (Kd.own_of_R HO111.out)
         refine value_ (w1 := ?_) (v := ?_) (by rfl) rfl ?_ ?_
         rotate_left 2
         ·go_simp
          constructor
          ·rfl
          ·rfl
         clear hcv18
         refine hK.out _ _ trivial (fun hHeld => ?_)
         clear hK K
         refine norm_ (a' := ?_) ?_ ?_
         rotate_left
         ·show Act.put _ (some 23) _ = _
          simp only [Act.put, List.setIfInBounds_toArray, List.set_cons_zero, List.set_cons_succ, i64_w, i32_w]
          rfl
         refine pure_ (i := 10) (N := some 24) (v := ?_) (a' := ?_) #[true, true, true, true, true, true, true, true, true, true, true, true, false, true, true, true, false, false, false] rfl rfl (any_of HT_.out (by kernel_rfl)) (fun _ _ _ h => h) (Or.inl ⟨by rfl, ?_⟩) ?_ ?_
         rotate_left
         ·intro w'
          go_simp
          with_reducible rfl
         rotate_left
         ·simp only [Act.put, List.setIfInBounds_toArray, List.set_cons_zero, List.set_cons_succ, i64_w, i32_w]
          rfl
         refine pure_ (i := 12) (N := some 26) (v := ?_) (a' := ?_) #[true, true, true, true, true, true, true, true, true, true, true, true, true, true, true, true, false, false, false] rfl rfl (any_of HT_.out (by kernel_rfl)) (fun _ _ _ h => h) (Or.inl ⟨by rfl, ?_⟩) ?_ ?_
         rotate_left
         ·intro w'
          go_simp
          with_reducible rfl
         rotate_left
         ·simp only [Act.put, List.setIfInBounds_toArray, List.set_cons_zero, List.set_cons_succ, i64_w, i32_w]
          rfl
         refine one_ (i := 16) (N := some 30) #[true, true, true, true, true, true, true, true, true, true, true, true, true, true, true, true, true, false, false] rfl rfl (one_of HT_.out (by kernel_rfl)) (by decide) (fun K hK => ?_)
         refine goes_ Try.func17 (by kernel_rfl) rfl #[.string (⟨#[0]⟩ : ByteArray), .int .i64 (wrap64 (49 - (a3.size : Int)))] (by rfl) rfl rfl (by (try simp only [List.map_toArray, List.map_cons, List.map_nil]); first | done | rfl | (simp only [List.length_drop, List.length_take]; rfl)) ?_
         with_reducible refine (strings_Repeat.calls (⟨#[0]⟩ : ByteArray) (wrap64 (49 - (a3.size : Int))) t112 _ A8.out).mono ?_
         rintro e w19 ⟨rfl, hb⟩
         refine ⟨_, rfl, ?_⟩
         have n0_ := Aside0.mk (Kd.R_below (by (with_reducible repeat (first | apply Kd.R_alloc | apply Kd.R_drewN | apply Kd.R_drew)); exact HO111.out) hb)
         have n1_ := Aside0.mk (below_step (by repeat (first | (with_reducible first | exact HB.out | apply below_alloc | apply pw_below_drewN | apply below_drew1) | exact HB.out)) hb)
         clear HO111
         clear HB
         have HO111 := n0_
         have HB := n1_
         clear n0_ n1_
         (try clear hb)
         (try clear hb2)
         (try clear hk)
         (try clear hi)
         refine hK.out _ _ trivial (fun hHeld => ?_)
         clear hK K
         refine norm_ (a' := ?_) ?_ ?_
         rotate_left
         ·show Act.put _ (some 30) _ = _
          simp only [Act.put, List.setIfInBounds_toArray, List.set_cons_zero, List.set_cons_succ, i64_w, i32_w]
          rfl
         exact norm_ (by simp only [putAll, Act.put, List.setIfInBounds_toArray, List.set_cons_zero, List.set_cons_succ]) (hCont (v110) _ ⟨(by (with_reducible repeat (first | apply Kd.R_alloc | apply Kd.R_drewN | apply Kd.R_drew)); exact HO111.out), (by repeat (first | (with_reducible first | exact HB.out | apply below_alloc | apply pw_below_drewN | apply below_drew1) | exact HB.out))⟩)
        ·skip
         refine goes_ Try.func17 (by kernel_rfl) rfl #[.string (⟨#[0]⟩ : ByteArray), .int .i64 (wrap64 (49 - (a3.size : Int)))] (by rfl) rfl rfl (by (try simp only [List.map_toArray, List.map_cons, List.map_nil]); first | done | rfl | (simp only [List.length_drop, List.length_take]; rfl)) ?_
         with_reducible refine (strings_Repeat.calls (⟨#[0]⟩ : ByteArray) (wrap64 (49 - (a3.size : Int))) t112 _ A8.out).mono ?_
         rintro e w18 ⟨rfl, hb⟩
         refine ⟨_, rfl, ?_⟩
         have n0_ := Aside0.mk (Kd.R_below (by (with_reducible repeat (first | apply Kd.R_alloc | apply Kd.R_drewN | apply Kd.R_drew)); exact HO111.out) hb)
         have n1_ := Aside0.mk (below_step (by repeat (first | (with_reducible first | exact HB.out | apply below_alloc | apply pw_below_drewN | apply below_drew1) | exact HB.out)) hb)
         clear HO111
         clear HB
         have HO111 := n0_
         have HB := n1_
         clear n0_ n1_
         (try clear hb)
         (try clear hb2)
         (try clear hk)
         (try clear hi)
         refine hK.out _ _ trivial (fun hHeld => ?_)
         clear hK K
         refine norm_ (a' := ?_) ?_ ?_
         rotate_left
         ·show Act.put _ (some 30) _ = _
          simp only [Act.put, List.setIfInBounds_toArray, List.set_cons_zero, List.set_cons_succ, i64_w, i32_w]
          rfl
         refine one_ (i := 9) (N := some 23) #[true, true, true, true, true, true, true, true, true, true, false, true, false, true, true, true, true, false, false] rfl rfl (one_of HT_.out (by kernel_rfl)) (by decide) (fun K hK => ?_)
         have hcv19 := own_string (P := Try.prog) Try.underlying42 Try.underlying5 Try.underlying9 (Kd.own_of_R HO111.out)
         refine value_ (w1 := ?_) (v := ?_) (by rfl) rfl ?_ ?_
         rotate_left 2
         ·go_simp
          constructor
          ·rfl
          ·rfl
         clear hcv19
         refine hK.out _ _ trivial (fun hHeld => ?_)
         clear hK K
         refine norm_ (a' := ?_) ?_ ?_
         rotate_left
         ·show Act.put _ (some 23) _ = _
          simp only [Act.put, List.setIfInBounds_toArray, List.set_cons_zero, List.set_cons_succ, i64_w, i32_w]
          rfl
         refine pure_ (i := 10) (N := some 24) (v := ?_) (a' := ?_) #[true, true, true, true, true, true, true, true, true, true, true, true, false, true, true, true, true, false, false] rfl rfl (any_of HT_.out (by kernel_rfl)) (fun _ _ _ h => h) (Or.inl ⟨by rfl, ?_⟩) ?_ ?_
         rotate_left
         ·intro w'
          go_simp
          with_reducible rfl
         rotate_left
         ·simp only [Act.put, List.setIfInBounds_toArray, List.set_cons_zero, List.set_cons_succ, i64_w, i32_w]
          rfl
         refine pure_ (i := 12) (N := some 26) (v := ?_) (a' := ?_) #[true, true, true, true, true, true, true, true, true, true, true, true, true, true, true, true, true, false, false] rfl rfl (any_of HT_.out (by kernel_rfl)) (fun _ _ _ h => h) (Or.inl ⟨by rfl, ?_⟩) ?_ ?_
         rotate_left
         ·intro w'
          go_simp
          with_reducible rfl
         rotate_left
         ·simp only [Act.put, List.setIfInBounds_toArray, List.set_cons_zero, List.set_cons_succ, i64_w, i32_w]
          rfl
         exact norm_ (by simp only [putAll, Act.put, List.setIfInBounds_toArray, List.set_cons_zero, List.set_cons_succ]) (hCont (v110) _ ⟨(by (with_reducible repeat (first | apply Kd.R_alloc | apply Kd.R_drewN | apply Kd.R_drew)); exact HO111.out), (by repeat (first | (with_reducible first | exact HB.out | apply below_alloc | apply pw_below_drewN | apply below_drew1) | exact HB.out))⟩)
       ·skip
        refine goes_ Try.func17 (by kernel_rfl) rfl #[.string (⟨#[0]⟩ : ByteArray), .int .i64 (wrap64 (49 - (a3.size : Int)))] (by rfl) rfl rfl (by (try simp only [List.map_toArray, List.map_cons, List.map_nil]); first | done | rfl | (simp only [List.length_drop, List.length_take]; rfl)) ?_
        with_reducible refine (strings_Repeat.calls (⟨#[0]⟩ : ByteArray) (wrap64 (49 - (a3.size : Int))) t112 _ A8.out).mono ?_
        rintro e w16 ⟨rfl, hb⟩
        refine ⟨_, rfl, ?_⟩
        have n0_ := Aside0.mk (below_step (by repeat (first | (with_reducible first | exact HB.out | apply below_alloc | apply pw_below_drewN | apply below_drew1) | exact HB.out)) hb)
        clear HB
        have HB := n0_
        clear n0_
        (try clear hb)
        (try clear hb2)
        (try clear hk)
        (try clear hi)
        refine hK.out _ _ trivial (fun hHeld => ?_)
        clear hK K
        refine norm_ (a' := ?_) ?_ ?_
        rotate_left
        ·show Act.put _ (some 30) _ = _
         simp only [Act.put, List.setIfInBounds_toArray, List.set_cons_zero, List.set_cons_succ, i64_w, i32_w]
         rfl
        refine one_ (i := 8) (N := some 22) #[true, true, true, true, true, true, true, true, true, false, false, true, false, true, true, true, true, false, false] rfl rfl (one_of HT_.out (by kernel_rfl)) (by decide) (fun K hK => ?_)
        refine Kd.R_lit_step (Kd.int .u8) _ 5 ?hg (N := 22) ?hd (xs := ([(a1) % 256, (a2) % 256, ((a3.size : Int)) % 256] : List Int)) (inner := [.int .u8 ((a1) % 256), .int .u8 ((a2) % 256), .int .u8 (((a3.size : Int)) % 256)]) (ok := fun _ => True) (okp := fun _ => True) ?hr ?hp (fun _ hk => hk) trivial (Below.refl _ _) (Nat.le_refl _) (by simp) ?_; (case hd => rfl); (case hg => rfl); (case hr => first | (go_simp; done) | (go_simp; rfl)); (case hp => exact (Reps.one (show Kd.M (Kd.int .u8) _ _ _ ((a1) % 256) [.int .u8 ((a1) % 256)] from rfl) (Reps.one (show Kd.M (Kd.int .u8) _ _ _ ((a2) % 256) [.int .u8 ((a2) % 256)] from rfl) (Reps.one (show Kd.M (Kd.int .u8) _ _ _ (((a3.size : Int)) % 256) [.int .u8 (((a3.size : Int)) % 256)] from rfl) (Reps.none _ _)))))
        intro v110 w17 ho18 hb hg_ hnew_
        clear hg_ hnew_
        (first | rw [← Ny109.out] at ho18 | (simp only [Int.reduceToNat] at ho18; rw [← Ny109.out] at ho18))
        have n0_ := Aside0.mk (Kd.R_lower ho18 (below_size (by repeat (first | (with_reducible first | exact HB.out | apply below_alloc | apply pw_below_drewN | apply below_drew1) | exact HB.out))))
        have n1_ := Aside0.mk (below_step (by repeat (first | (with_reducible first | exact HB.out | apply below_alloc | apply pw_below_drewN | apply below_drew1) | exact HB.out)) hb)
        clear HB
        have HO111 := n0_
        have HB := n1_
        clear n0_ n1_
        clear hb ho18
        refine hK.out _ _ trivial (fun hHeld => ?_)
        clear hK K
        refine norm_ (a' := ?_) ?_ ?_
        rotate_left
        ·show Act.put _ (some 22) _ = _
         simp only [Act.put, List.setIfInBounds_toArray, List.set_cons_zero, List.set_cons_succ, i64_w, i32_w]
         rfl
        refine one_ (i := 9) (N := some 23) #[true, true, true, true, true, true, true, true, true, true, false, true, false, true, true, true, true, false, false] rfl rfl (one_of HT_.out (by kernel_rfl)) (by decide) (fun K hK => ?_)
        have hcv19 := own_string (P := Try.prog) Try.underlying42 Try.underlying5 Try.underlying9 (Kd.own_of_R HO111.out)
        refine value_ (w1 := ?_) (v := ?_) (by rfl) rfl ?_ ?_
        rotate_left 2
        ·go_simp
         constructor
         ·rfl
         ·rfl
        clear hcv19
        refine hK.out _ _ trivial (fun hHeld => ?_)
        clear hK K
        refine norm_ (a' := ?_) ?_ ?_
        rotate_left
        ·show Act.put _ (some 23) _ = _
         simp only [Act.put, List.setIfInBounds_toArray, List.set_cons_zero, List.set_cons_succ, i64_w, i32_w]
         rfl
        refine pure_ (i := 10) (N := some 24) (v := ?_) (a' := ?_) #[true, true, true, true, true, true, true, true, true, true, true, true, false, true, true, true, true, false, false] rfl rfl (any_of HT_.out (by kernel_rfl)) (fun _ _ _ h => h) (Or.inl ⟨by rfl, ?_⟩) ?_ ?_
        rotate_left
        ·intro w'
         go_simp
         with_reducible rfl
        rotate_left
        ·simp only [Act.put, List.setIfInBounds_toArray, List.set_cons_zero, List.set_cons_succ, i64_w, i32_w]
         rfl
        refine pure_ (i := 12) (N := some 26) (v := ?_) (a' := ?_) #[true, true, true, true, true, true, true, true, true, true, true, true, true, true, true, true, true, false, false] rfl rfl (any_of HT_.out (by kernel_rfl)) (fun _ _ _ h => h) (Or.inl ⟨by rfl, ?_⟩) ?_ ?_
        rotate_left
        ·intro w'
         go_simp
         with_reducible rfl
        rotate_left
        ·simp only [Act.put, List.setIfInBounds_toArray, List.set_cons_zero, List.set_cons_succ, i64_w, i32_w]
         rfl
        exact norm_ (by simp only [putAll, Act.put, List.setIfInBounds_toArray, List.set_cons_zero, List.set_cons_succ]) (hCont (v110) _ ⟨(by (with_reducible repeat (first | apply Kd.R_alloc | apply Kd.R_drewN | apply Kd.R_drew)); exact HO111.out), (by repeat (first | (with_reducible first | exact HB.out | apply below_alloc | apply pw_below_drewN | apply below_drew1) | exact HB.out))⟩)
      rintro v110 w20 ⟨h0_, h1_⟩
      have n0_ : Aside0 (Kd.R (Kd.int .u8) 5 w20 w.heap.size (fun _ => True) v110 y109) := ⟨h0_⟩
      have n1_ : Aside0 (Below w.heap.size w w20) := ⟨h1_⟩
      clear HB
      clear h0_ h1_
      have HO111 := n0_
      have HB := n1_
      clear n0_ n1_
      have hHeld := trivial
      refine norm_ (a' := ?_) ?_ ?_
      rotate_left
      ·simp only [putAll, Act.put, List.setIfInBounds_toArray, List.set_cons_zero, List.set_cons_succ]
       rfl
      refine pure_ (i := 17) (N := some 31) (v := ?_) (a' := ?_) #[true, true, true, true, true, true, true, true, true, true, true, true, true, true, true, true, true, true, false] rfl rfl (any_of HT_.out (by kernel_rfl)) (fun _ _ _ h => h) (Or.inl ⟨by rfl, ?_⟩) ?_ ?_
      rotate_left
      ·intro w'
       go_simp
       with_reducible rfl
      rotate_left
      ·simp only [Act.put, List.setIfInBounds_toArray, List.set_cons_zero, List.set_cons_succ, i64_w, i32_w]
       rfl
      refine pure_ (i := 18) (N := some 10) (v := ?_) (a' := ?_) #[true, true, true, true, true, true, true, true, true, true, true, true, true, true, true, true, true, true, true] rfl rfl (any_of HT_.out (by kernel_rfl)) (fun _ _ _ h => h) (Or.inl ⟨by rfl, ?_⟩) ?_ ?_
      rotate_left
      ·intro w'
       go_simp
       with_reducible rfl
      rotate_left
      ·simp only [Act.put, List.setIfInBounds_toArray, List.set_cons_zero, List.set_cons_succ, i64_w, i32_w]
       rfl
      refine done_ (done_of HT_.out (by kernel_rfl)) ?_
      try go_wp2_with (first | ((with_reducible refine gate_callee (f := 100) rfl ?_); refine goesL_ (some 34) rfl rfl Try.func100 (by kernel_rfl) rfl #[.string (((t108 ++ (strOfNums y109)) ++ a3) ++ t112)] rfl (by (try simp only [List.map_toArray, List.map_cons, List.map_nil]); first | done | rfl | (simp only [List.length_drop, List.length_take]; rfl)) ?_; (with_reducible refine (block_crc.calls (((t108 ++ (strOfNums y109)) ++ a3) ++ t112) t113 _ A10.out).mono ?_); rintro e w' ⟨rfl, ⟨nd, rfl⟩⟩; refine ⟨_, rfl, ?_⟩) | ((with_reducible refine gate_callee (f := 99) rfl ?_); refine goesL_ (some 35) rfl rfl Try.func99 (by kernel_rfl) rfl #[.int .u32 t113] rfl (by (try simp only [List.map_toArray, List.map_cons, List.map_nil]); first | done | rfl | (simp only [List.length_drop, List.length_take]; rfl)) ?_; (with_reducible refine (block_low.calls t113 t114 _ A11.out).mono ?_); rintro e w21 ⟨rfl, hb⟩; refine ⟨_, rfl, ?_⟩; have n0_ := Aside0.mk (Kd.R_below (by (with_reducible repeat (first | apply Kd.R_alloc | apply Kd.R_drewN | apply Kd.R_drew)); exact HO111.out) hb); have n1_ := Aside0.mk (below_step (by repeat (first | (with_reducible first | exact HB.out | apply below_alloc | apply pw_below_drewN | apply below_drew1) | exact HB.out)) hb); clear HO111; clear HB; have HO111 := n0_; have HB := n1_; clear n0_ n1_; (try clear hb); (try clear hb2); (try clear hk); (try clear hi)))
      go_ret
      exact ⟨by first | rfl | (simp [errW_none, errW_some] <;> rfl) | (simp [*, errW_none, errW_some] <;> rfl), by repeat (first | (with_reducible first | exact HB.out | apply below_alloc | apply pw_below_drewN | apply below_drew1) | exact HB.out)⟩
     ·rw [if_neg c13] at H
      exact absurd H (by simp)
    ·rw [if_neg c12] at H
     exact absurd H (by simp)
   ·rw [if_neg c9] at H
    exact absurd H (by simp)
  ·rw [if_neg c7] at H
   exact absurd H (by simp)
 ·rw [if_neg c6] at H
  exact absurd H (by simp)
end Go.Proofs.Ytckfkbmefdmedaa.Q
namespace Go.Proofs.Ytckfkbmefdmedaa
open Go.RowKit Go.Proofs.Kq Go.Proofs.Ytckfkbmefdmedaa.Q Go.Proofs.YtckfkbmefdmedaaW.PrintWords
set_option linter.unusedSimpArgs false
def headF (n i c : Int) (d : ByteArray) : ByteArray := ((strOfNums (lowI 4 ((n + 1) % 4294967296)) ++ strOfNums [i % 256, c % 256, (d.size : Int) % 256]) ++ d) ++ ⟨(Lib.repeatL [0] (49 - d.size)).toArray⟩
def oneF (n i c : Int) (d : ByteArray) : ByteArray := (headF n i c d ++ strOfNums (lowI 4 (crcF (headF n i c d)))) ++ strOfNums (lowI 4 ((n + 1) % 4294967296))
theorem one_ok (n i c : Int) (d : ByteArray) (hd : d.size ≤ 49) : block_one.f n i c d = some (oneF n i c d) := by
  have hr : strings_Repeat.f ⟨#[0]⟩ (wrap64 (49 - (d.size : Int))) = some ⟨(Lib.repeatL [0] (49 - d.size)).toArray⟩ := by
    have e : wrap64 (49 - (d.size : Int)) = ((49 - d.size : Nat) : Int) := by unfold wrap64; omega
    unfold strings_Repeat.f
    rw [e, if_pos ⟨by omega, by omega, by show 1 * _ ≤ _; omega⟩]
    simp
  have hl : ∀ z, in32 z → block_low.f z = some (strOfNums (lowI 4 z)) := fun z hz => by unfold block_low.f; rw [if_pos ⟨hz.1, hz.2⟩]
  have hz1 : in32 ((n + 1) % 4294967296) := by unfold in32; omega
  have hs4 : ∀ z, (strOfNums (lowI 4 z)).size = 4 := fun z => by rw [sn_size, lowI_len]
  have hrs : (⟨(Lib.repeatL [(0 : UInt8)] (49 - d.size)).toArray⟩ : ByteArray).size = 49 - d.size := by
    show (List.toArray _).size = _
    simp [Lib.repeatL_length]
  have hh : (headF n i c d).size = 56 := by
    simp only [headF, ByteArray.size_append, hs4, hrs, sn_size]; simp; omega
  have hc : block_crc.f (headF n i c d) = some (crcF (headF n i c d)) := by unfold block_crc.f; rw [if_pos (by omega)]
  unfold block_one.f
  rw [hl _ hz1]
  simp only [Option.bind_some]
  rw [if_pos (by rw [hs4, sn_size]; simp), if_pos (by rw [ByteArray.size_append, hs4, sn_size]; simp; omega), hr]
  simp only [Option.bind_some]
  rw [if_pos (by rw [ByteArray.size_append, ByteArray.size_append, hs4, sn_size, hrs]; simp; omega)]
  change (block_crc.f (headF n i c d)).bind _ = _
  rw [hc]
  simp only [Option.bind_some]
  rw [hl _ (crcF_in _)]
  simp only [Option.bind_some]
  rw [if_pos, if_pos]
  · rfl
  · change (headF n i c d ++ _).size + _ ≤ _; rw [ByteArray.size_append, hh, hs4, hs4]; omega
  · change (headF n i c d).size + _ ≤ _; rw [hh, hs4]; omega
end Go.Proofs.Ytckfkbmefdmedaa
namespace Go.Proofs.Ytckfkbmefdmedaa.Q
open Go.RowKit Go.Proofs.YtckfkbmefdmedaaW.PrintWords Go.Proofs.YtckfkbmefdmedaaW.PrintLast Go.Proofs.YtckfkbmefdmedaaW.PrintMore
attribute [local go_sem] max2_int min2_int max_two min_two max_three min_three max_four min_four   -- for this text's walks alone
set_option linter.unusedVariables false
set_option linter.unusedSimpArgs false
mutual
def block_Pack.j0 : Nat → Int → ByteArray → Int → Bool → Option (List ByteArray × Int)
 | 0, _, _, _, _ => none
 | k + 1, x0, x1, x6, x28 => if x28 = true then (some (([] : List ByteArray), 1)) else (block_Pack.l0 k x0 x1 x6 ([] : List ByteArray) x6 0)
def block_Pack.l0 : Nat → Int → ByteArray → Int → List ByteArray → Int → Int → Option (List ByteArray × Int)
 | 0, _, _, _, _, _, _ => none
 | k + 1, x0, x1, x6, x7, x29, x30 => if x30 < x29 then (if 49 < (x1.size : Int) then (if 0 ≤ 49 then (if 49 ≤ (x1.size : Int) then ((block_one.f ((x0) % 4294967296) x30 x6 (x1.extract 0 49)).bind fun t115 => (if x7.length < 8796093022208 then (block_Pack.l0 k x0 (x1.extract 49 x1.size) x6 (x7 ++ [t115]) x29 (wrap64 (x30 + 1))) else (none))) else (none)) else (none)) else (if 0 ≤ (x1.size : Int) then (if (x1.size : Int) ≤ (x1.size : Int) then ((block_one.f ((x0) % 4294967296) x30 x6 (x1.extract 0 ((x1.size : Int) : Int).toNat)).bind fun t119 => (if x7.length < 8796093022208 then (block_Pack.l0 k x0 (x1.extract ((x1.size : Int) : Int).toNat x1.size) x6 (x7 ++ [t119]) x29 (wrap64 (x30 + 1))) else (none))) else (none)) else (none))) else (some (x7, 0))
end
def block_Pack.f (k : Nat) (a0 : Int) (a1 : ByteArray) : Option (List ByteArray × Int) := if (wrap64 (Int.tdiv (wrap64 ((wrap64 ((a1.size : Int) + 49)) - 1)) 49)) < 1 then (block_Pack.j0 k a0 a1 (wrap64 (Int.tdiv (wrap64 ((wrap64 ((a1.size : Int) + 49)) - 1)) 49)) true) else (if (wrap64 (Int.tdiv (wrap64 ((wrap64 ((a1.size : Int) + 49)) - 1)) 49)) > 255 then (block_Pack.j0 k a0 a1 (wrap64 (Int.tdiv (wrap64 ((wrap64 ((a1.size : Int) + 49)) - 1)) 49)) true) else (if a0 < 0 then (block_Pack.j0 k a0 a1 (wrap64 (Int.tdiv (wrap64 ((wrap64 ((a1.size : Int) + 49)) - 1)) 49)) true) else (block_Pack.j0 k a0 a1 (wrap64 (Int.tdiv (wrap64 ((wrap64 ((a1.size : Int) + 49)) - 1)) 49)) (decide (a0 ≥ 4294967295)))))
set_option maxHeartbeats 8000000 in
set_option maxRecDepth 100000 in
theorem block_Pack.calls (k : Nat) (a0 : Int) (a1 : ByteArray) (r1 : List ByteArray) (r2 : Int) (w : World) (h : block_Pack.f k a0 a1 = some (r1, r2)) :
  Calls Try.prog 16 #[.int .i64 a0, .string a1] w fun e w' => ∃ v0_ : Value, e = .returned (.tuple #[v0_, .int .i64 r2]) ∧ Kd.R Kd.string 9 w' w.heap.size (fun _ => True) v0_ r1 ∧ Below w.heap.size w w' := by
 have HB := Aside0.mk (Below.refl w.heap.size w)
 have H : (if (wrap64 (Int.tdiv (wrap64 ((wrap64 ((a1.size : Int) + 49)) - 1)) 49)) < 1 then (block_Pack.j0 k a0 a1 (wrap64 (Int.tdiv (wrap64 ((wrap64 ((a1.size : Int) + 49)) - 1)) 49)) true) else (if (wrap64 (Int.tdiv (wrap64 ((wrap64 ((a1.size : Int) + 49)) - 1)) 49)) > 255 then (block_Pack.j0 k a0 a1 (wrap64 (Int.tdiv (wrap64 ((wrap64 ((a1.size : Int) + 49)) - 1)) 49)) true) else (if a0 < 0 then (block_Pack.j0 k a0 a1 (wrap64 (Int.tdiv (wrap64 ((wrap64 ((a1.size : Int) + 49)) - 1)) 49)) true) else (block_Pack.j0 k a0 a1 (wrap64 (Int.tdiv (wrap64 ((wrap64 ((a1.size : Int) + 49)) - 1)) 49)) (decide (a0 ≥ 4294967295)))))) = some (r1, r2) := h
 clear h
 have HC3 := Aside0.mk H
 clear H
 go_enter Try.func16, Try.ntmps16
 go_upto_region 2 with (fail)
 go_cut [28] (fun v28 wc => ∃ (kq : Nat) (x28_2 : Bool), v28 = .bool x28_2 ∧ Aside0 (block_Pack.j0 kq a0 a1 (wrap64 (Int.tdiv (wrap64 ((wrap64 ((a1.size : Int) + 49)) - 1)) 49)) x28_2 = some (r1, r2)) ∧ Aside0 (kq ≤ k) ∧ Aside0 (Below w.heap.size w wc))
 case first =>
  have H := HC3.out
  clear HC3
  by_cases c4 : (wrap64 (Int.tdiv (wrap64 ((wrap64 ((a1.size : Int) + 49)) - 1)) 49)) < 1
  ·rw [if_pos c4] at H
   have c4b0 : decide ((wrap64 (Int.tdiv (wrap64 ((wrap64 ((a1.size : Int) + 49)) - 1)) 49)) < 1) = true := decide_eq_true c4
   clear c4
   (first | rw [c4b0] | (simp only [i64_w, i32_w]; rw [c4b0]) | skip)
   have H' := Aside0.mk H
   clear H
   go_wp2
   go_meet
   case rel => exact ⟨_, (true), (by first | rfl | (simp; done) | (simp [*]; done)), H', ⟨by first | omega | exact Nat.le_refl _⟩, ⟨by repeat (first | (with_reducible first | exact HB.out | apply below_alloc | apply pw_below_drewN | apply below_drew1) | exact HB.out)⟩⟩
  ·rw [if_neg c4] at H
   have c4b0 : decide ((wrap64 (Int.tdiv (wrap64 ((wrap64 ((a1.size : Int) + 49)) - 1)) 49)) < 1) = false := decide_eq_false c4
   clear c4
   (first | rw [c4b0] | (simp only [i64_w, i32_w]; rw [c4b0]) | skip)
   by_cases c5 : (wrap64 (Int.tdiv (wrap64 ((wrap64 ((a1.size : Int) + 49)) - 1)) 49)) > 255
   ·rw [if_pos c5] at H
    have c5b0 : decide (255 < (wrap64 (Int.tdiv (wrap64 ((wrap64 ((a1.size : Int) + 49)) - 1)) 49))) = true := decide_eq_true c5
    clear c5
    have H' := Aside0.mk H
    clear H
    go_wp2
    go_meet
    case rel => exact ⟨_, (true), (by first | rfl | (simp; done) | (simp [*]; done)), H', ⟨by first | omega | exact Nat.le_refl _⟩, ⟨by repeat (first | (with_reducible first | exact HB.out | apply below_alloc | apply pw_below_drewN | apply below_drew1) | exact HB.out)⟩⟩
   ·rw [if_neg c5] at H
    have c5b0 : decide (255 < (wrap64 (Int.tdiv (wrap64 ((wrap64 ((a1.size : Int) + 49)) - 1)) 49))) = false := decide_eq_false c5
    clear c5
    by_cases c6 : a0 < 0
    ·rw [if_pos c6] at H
     have c6b0 : decide (a0 < 0) = true := decide_eq_true c6
     clear c6
     have H' := Aside0.mk H
     clear H
     go_wp2
     go_meet
     case rel => exact ⟨_, (true), (by first | rfl | (simp; done) | (simp [*]; done)), H', ⟨by first | omega | exact Nat.le_refl _⟩, ⟨by repeat (first | (with_reducible first | exact HB.out | apply below_alloc | apply pw_below_drewN | apply below_drew1) | exact HB.out)⟩⟩
    ·rw [if_neg c6] at H
     have c6b0 : decide (a0 < 0) = false := decide_eq_false c6
     clear c6
     have H' := Aside0.mk H
     clear H
     go_wp2
     go_meet
     case rel => exact ⟨_, (decide (a0 ≥ 4294967295)), (by first | rfl | (simp; done) | (simp [*]; done)), H', ⟨by first | omega | exact Nat.le_refl _⟩, ⟨by repeat (first | (with_reducible first | exact HB.out | apply below_alloc | apply pw_below_drewN | apply below_drew1) | exact HB.out)⟩⟩
 case rest =>
  clear HC3
  try clear c1
  try clear p2
  try clear c4
  try clear c4b0
  try clear c5
  try clear c5b0
  try clear c6
  try clear c6b0
  try clear p6
  obtain ⟨kq, x28_2, rfl, HA, HJ2, HB⟩ := hcut
  cases kq with
  | zero => exact absurd HA.out (by simp [block_Pack.j0])
  | succ kj2 =>
   have H := HA.out
   clear HA
   simp only [block_Pack.j0] at H
   by_cases c7 : x28_2 = true
   ·subst c7
    have H1 : (some (([] : List ByteArray), 1)) = some (r1, r2) := by rw [if_pos rfl] at H; exact H
    clear H
    have H := H1
    clear H1
    simp only [Option.some.injEq, Prod.mk.injEq] at H
    obtain ⟨rfl, rfl⟩ := H
    go_wp2
    go_ret2
    exact ⟨_, by first | rfl | (simp [errW_none, errW_some] <;> rfl) | (simp [*, errW_none, errW_some] <;> rfl), by first | exact Kd.R_nil _ _ _ _ _ | exact Kd.N_nil _ _ _ _ _ | exact Kd.V_nil _ _ _ _ _ | exact Kd.Q_nil _ _ _ _ _ | exact Kd.S_nil _ _ _ _ _, by repeat (first | (with_reducible first | exact HB.out | apply below_alloc | apply pw_below_drewN | apply below_drew1) | exact HB.out)⟩
   ·replace c7 := Bool.eq_false_iff.mpr c7
    subst c7
    have H1 : (block_Pack.l0 kj2 a0 a1 (wrap64 (Int.tdiv (wrap64 ((wrap64 ((a1.size : Int) + 49)) - 1)) 49)) ([] : List ByteArray) (wrap64 (Int.tdiv (wrap64 ((wrap64 ((a1.size : Int) + 49)) - 1)) 49)) 0) = some (r1, r2) := by rw [if_neg (show ¬ (false = true) by decide)] at H; exact H
    clear H
    have H := H1
    clear H1
    have H' := Aside0.mk H
    clear H
    go_wp2
    go_loopg [1, 7, 30] kj2 (fun kq v1 v7 v30 w' => ∃ (x1_2 : ByteArray) (x7_2 : List ByteArray) (x30_2 : Int), v1 = .string x1_2 ∧ v30 = .int .i64 x30_2 ∧ Aside0 (block_Pack.l0 kq a0 x1_2 (wrap64 (Int.tdiv (wrap64 ((wrap64 ((a1.size : Int) + 49)) - 1)) 49)) x7_2 (wrap64 (Int.tdiv (wrap64 ((wrap64 ((a1.size : Int) + 49)) - 1)) 49)) x30_2 = some (r1, r2)) ∧ Aside0 (kq ≤ kj2) ∧ Aside0 (Kd.R Kd.string 9 w' w.heap.size (fun _ => True) v7 x7_2) ∧ Aside0 (Below w.heap.size w w'))
    case atStart => exact ⟨(a1), (([] : List ByteArray)), (0), (by first | rfl | (simp; done) | (simp [*]; done)), (by first | rfl | (simp; done) | (simp [*]; done)), H', ⟨Nat.le_refl _⟩, ⟨by first | exact Kd.R_nil _ _ _ _ _ | exact Kd.N_nil _ _ _ _ _ | exact Kd.V_nil _ _ _ _ _ | exact Kd.Q_nil _ _ _ _ _ | exact Kd.S_nil _ _ _ _ _⟩, ⟨by repeat (first | (with_reducible first | exact HB.out | apply below_alloc | apply pw_below_drewN | apply below_drew1) | exact HB.out)⟩⟩
    case round =>
     clear H'
     try clear c1
     try clear p2
     try clear c4
     try clear c4b0
     try clear c5
     try clear c5b0
     try clear c6
     try clear c6b0
     try clear p6
     try clear c7
     try clear p2
     try clear p6
     obtain ⟨x1_2, x7_2, x30_2, rfl, rfl, HA, HK2, HO_7, HB⟩ := hrel
     cases gk with
     | zero => exact absurd HA.out (by simp [block_Pack.l0])
     | succ k2 =>
      have H := HA.out
      clear HA
      simp only [block_Pack.l0] at H
      by_cases c8 : x30_2 < (wrap64 (Int.tdiv (wrap64 ((wrap64 ((a1.size : Int) + 49)) - 1)) 49))
      ·rw [if_pos c8] at H
       have c8b0 : decide (x30_2 < (wrap64 (Int.tdiv (wrap64 ((wrap64 ((a1.size : Int) + 49)) - 1)) 49))) = true := decide_eq_true c8
       clear c8
       by_cases c9 : 49 < (x1_2.size : Int)
       ·rw [if_pos c9] at H
        have c9i := eq_true c9
        have c9b0 : decide (49 < (x1_2.size : Int)) = true := decide_eq_true c9
        have c9b1 : decide (49 < x1_2.size) = true := decide_eq_true (by omega)
        clear c9
        by_cases c10 : 0 ≤ 49
        ·rw [if_pos c10] at H
         have c10b0 := eq_true c10
         have c10b1 : decide (0 ≤ 49) = true := decide_eq_true c10
         clear c10
         by_cases c11 : 49 ≤ (x1_2.size : Int)
         ·rw [if_pos c11] at H
          have c11b0 := eq_true c11
          have c11b1 : decide (49 ≤ (x1_2.size : Int)) = true := decide_eq_true c11
          clear c11
          replace H := Option.bind_eq_some_iff.mp H
          obtain ⟨t115, A120, H⟩ := H
          replace H : (if x7_2.length < 8796093022208 then (block_Pack.l0 k2 a0 (x1_2.extract 49 x1_2.size) (wrap64 (Int.tdiv (wrap64 ((wrap64 ((a1.size : Int) + 49)) - 1)) 49)) (x7_2 ++ [t115]) (wrap64 (Int.tdiv (wrap64 ((wrap64 ((a1.size : Int) + 49)) - 1)) 49)) (wrap64 (x30_2 + 1))) else (none)) = some (r1, r2) := H
          have A12 := Aside0.mk A120
          clear A120
          by_cases c13 : x7_2.length < 8796093022208
          ·rw [if_pos c13] at H
           have LMc13 := Aside0.mk c13
           clear c13
           obtain ⟨y116, hy116⟩ : ∃ y_ : List ByteArray, y_ = (x7_2 ++ [t115]) := ⟨_, rfl⟩
           replace H : (block_Pack.l0 k2 a0 (x1_2.extract 49 x1_2.size) (wrap64 (Int.tdiv (wrap64 ((wrap64 ((a1.size : Int) + 49)) - 1)) 49)) y116 (wrap64 (Int.tdiv (wrap64 ((wrap64 ((a1.size : Int) + 49)) - 1)) 49)) (wrap64 (x30_2 + 1))) = some (r1, r2) := by first | (rw [hy116]; with_reducible exact H) | (have H2_ := (Option.bind_some _ _).symm.trans H; rw [hy116]; with_reducible exact H2_) | (have H2_ := (Option.bind_some _ _).symm.trans H; with_reducible exact H2_) | with_reducible exact H | (rw [hy116]; exact H) | exact H
           have Ny116 := Aside0.mk hy116
           clear hy116
           have c14b0 := eq_true (of_decide_eq_true (by first | (with_reducible assumption) | assumption) : 49 ≤ (x1_2.size : Int))
           have H' := Aside0.mk H
           clear H
           go_wp2_with (first | ((with_reducible refine gate_callee (f := 65) rfl ?_); refine goesL_ (some 44) rfl rfl Try.func65 (by kernel_rfl) rfl #[.int .u32 ((a0) % 4294967296), .int .i64 x30_2, .int .i64 (wrap64 (Int.tdiv (wrap64 ((wrap64 ((a1.size : Int) + 49)) - 1)) 49)), .string (x1_2.extract 0 49)] rfl (by (try simp only [List.map_toArray, List.map_cons, List.map_nil]); first | done | rfl | (simp only [List.length_drop, List.length_take]; rfl)) ?_; (with_reducible refine (block_one.calls ((a0) % 4294967296) x30_2 (wrap64 (Int.tdiv (wrap64 ((wrap64 ((a1.size : Int) + 49)) - 1)) 49)) (x1_2.extract 0 49) t115 _ A12.out).mono ?_); rintro e w15 ⟨rfl, hb⟩; refine ⟨_, rfl, ?_⟩; have n0_ := Aside0.mk (Kd.R_below (by (with_reducible repeat (first | apply Kd.R_alloc | apply Kd.R_drewN | apply Kd.R_drew)); exact HO_7.out) hb); have n1_ := Aside0.mk (below_step (by repeat (first | (with_reducible first | exact HB.out | apply below_alloc | apply pw_below_drewN | apply below_drew1) | exact HB.out)) hb); clear HO_7; clear HB; have HO_7 := n0_; have HB := n1_; clear n0_ n1_; (try clear hb); (try clear hb2); (try clear hk); (try clear hi)) | ((with_reducible refine gate_builtin (b := .append) (xs := #[.tmp 36, .tmp 45]) rfl ?_); at_builtin; refine Kd.R_append Kd.string (w0 := w) w.heap.size rfl (.tmp 36) (.tmp 45) 22 9 (.string ⟨#[]⟩) 16 rfl Try.underlying22 info9 rfl (by decide) (by omega) u7 x7_2 t115 [.string t115] (fun _ => True) (fun _ => False) rfl rfl ?aP (fun _ hk => hk.elim) ?aF ?aO ?aB ?aS ?aL ?_; (case aP => exact rfl); (case aB => exact (by repeat (first | (with_reducible first | exact HB.out | apply below_alloc | apply pw_below_drewN | apply below_drew1) | exact HB.out))); (case aF => exact (fun _ _ => trivial)); (case aO => exact (by (with_reducible repeat (first | apply Kd.R_alloc | apply Kd.R_drewN | apply Kd.R_drew)); exact HO_7.out)); (case aS => exact (below_size (by repeat (first | (with_reducible first | exact HB.out | apply below_alloc | apply pw_below_drewN | apply below_drew1) | exact HB.out)))); (case aL => have := LMc13.out; omega); intro v117 w16 ho hb hg hat; rw [← Ny116.out] at ho; have n0_ := Aside0.mk (hb); have n1_ := Aside0.mk (ho); clear HB; clear HO_7; have HB := n0_; have HO118 := n1_; clear n0_ n1_; clear ho hb hg hat))
           go_roundg k2
           case measure => have := HJ2.out; have := HK2.out; omega
           case rel => exact ⟨(x1_2.extract 49 x1_2.size), (y116), (wrap64 (x30_2 + 1)), (by first | rfl | (simp; done) | (simp [*]; done)), (by first | rfl | (simp; done) | (simp [*]; done)), H', ⟨by have := HJ2.out; have := HK2.out; omega⟩, ⟨by (with_reducible repeat (first | apply Kd.R_alloc | apply Kd.R_drewN | apply Kd.R_drew)); exact HO118.out⟩, ⟨by repeat (first | (with_reducible first | exact HB.out | apply below_alloc | apply pw_below_drewN | apply below_drew1) | exact HB.out)⟩⟩
          ·rw [if_neg c13] at H
           exact absurd H (by simp)
         ·rw [if_neg c11] at H
          exact absurd H (by simp)
        ·rw [if_neg c10] at H
         exact absurd H (by simp)
       ·rw [if_neg c9] at H
        have c9i := eq_false c9
        have c9b0 : decide (49 < (x1_2.size : Int)) = false := decide_eq_false c9
        have c9b1 : decide (49 < x1_2.size) = false := decide_eq_false (by omega)
        clear c9
        by_cases c17 : 0 ≤ (x1_2.size : Int)
        ·rw [if_pos c17] at H
         have c17b0 := eq_true c17
         have c17b1 : decide (0 ≤ (x1_2.size : Int)) = true := decide_eq_true c17
         clear c17
         by_cases c18 : (x1_2.size : Int) ≤ (x1_2.size : Int)
         ·rw [if_pos c18] at H
          have c18b0 := eq_true c18
          have c18b1 : decide ((x1_2.size : Int) ≤ (x1_2.size : Int)) = true := decide_eq_true c18
          clear c18
          replace H := Option.bind_eq_some_iff.mp H
          obtain ⟨t119, A190, H⟩ := H
          replace H : (if x7_2.length < 8796093022208 then (block_Pack.l0 k2 a0 (x1_2.extract ((x1_2.size : Int) : Int).toNat x1_2.size) (wrap64 (Int.tdiv (wrap64 ((wrap64 ((a1.size : Int) + 49)) - 1)) 49)) (x7_2 ++ [t119]) (wrap64 (Int.tdiv (wrap64 ((wrap64 ((a1.size : Int) + 49)) - 1)) 49)) (wrap64 (x30_2 + 1))) else (none)) = some (r1, r2) := H
          have A19 := Aside0.mk A190
          clear A190
          by_cases c20 : x7_2.length < 8796093022208
          ·rw [if_pos c20] at H
           have LMc20 := Aside0.mk c20
           clear c20
           obtain ⟨y120, hy120⟩ : ∃ y_ : List ByteArray, y_ = (x7_2 ++ [t119]) := ⟨_, rfl⟩
           replace H : (block_Pack.l0 k2 a0 (x1_2.extract ((x1_2.size : Int) : Int).toNat x1_2.size) (wrap64 (Int.tdiv (wrap64 ((wrap64 ((a1.size : Int) + 49)) - 1)) 49)) y120 (wrap64 (Int.tdiv (wrap64 ((wrap64 ((a1.size : Int) + 49)) - 1)) 49)) (wrap64 (x30_2 + 1))) = some (r1, r2) := by first | (rw [hy120]; with_reducible exact H) | (have H2_ := (Option.bind_some _ _).symm.trans H; rw [hy120]; with_reducible exact H2_) | (have H2_ := (Option.bind_some _ _).symm.trans H; with_reducible exact H2_) | with_reducible exact H | (rw [hy120]; exact H) | exact H
           have Ny120 := Aside0.mk hy120
           clear hy120
           have c21b0 := eq_true (of_decide_eq_true (by first | (with_reducible assumption) | assumption) : 0 ≤ (x1_2.size : Int))
           have c22b0 := eq_true (of_decide_eq_true (by first | (with_reducible assumption) | assumption) : (x1_2.size : Int) ≤ (x1_2.size : Int))
           have H' := Aside0.mk H
           clear H
           go_wp2_with (first | ((with_reducible refine gate_callee (f := 65) rfl ?_); refine goesL_ (some 44) rfl rfl Try.func65 (by kernel_rfl) rfl #[.int .u32 ((a0) % 4294967296), .int .i64 x30_2, .int .i64 (wrap64 (Int.tdiv (wrap64 ((wrap64 ((a1.size : Int) + 49)) - 1)) 49)), .string x1_2] rfl (by (try simp only [List.map_toArray, List.map_cons, List.map_nil]); first | done | rfl | (simp only [List.length_drop, List.length_take]; rfl)) ?_; (with_reducible refine (block_one.calls ((a0) % 4294967296) x30_2 (wrap64 (Int.tdiv (wrap64 ((wrap64 ((a1.size : Int) + 49)) - 1)) 49)) x1_2 t119 _ (by have z_ := A19.out; have e_ : x1_2.extract 0 ((x1_2.size : Int) : Int).toNat = x1_2 := (by simp); rwa [e_] at z_)).mono ?_); rintro e w23 ⟨rfl, hb⟩; refine ⟨_, rfl, ?_⟩; have n0_ := Aside0.mk (Kd.R_below (by (with_reducible repeat (first | apply Kd.R_alloc | apply Kd.R_drewN | apply Kd.R_drew)); exact HO_7.out) hb); have n1_ := Aside0.mk (below_step (by repeat (first | (with_reducible first | exact HB.out | apply below_alloc | apply pw_below_drewN | apply below_drew1) | exact HB.out)) hb); clear HO_7; clear HB; have HO_7 := n0_; have HB := n1_; clear n0_ n1_; (try clear hb); (try clear hb2); (try clear hk); (try clear hi)) | ((with_reducible refine gate_builtin (b := .append) (xs := #[.tmp 36, .tmp 45]) rfl ?_); at_builtin; refine Kd.R_append Kd.string (w0 := w) w.heap.size rfl (.tmp 36) (.tmp 45) 22 9 (.string ⟨#[]⟩) 16 rfl Try.underlying22 info9 rfl (by decide) (by omega) u7 x7_2 t119 [.string t119] (fun _ => True) (fun _ => False) rfl rfl ?aP (fun _ hk => hk.elim) ?aF ?aO ?aB ?aS ?aL ?_; (case aP => exact rfl); (case aB => exact (by repeat (first | (with_reducible first | exact HB.out | apply below_alloc | apply pw_below_drewN | apply below_drew1) | exact HB.out))); (case aF => exact (fun _ _ => trivial)); (case aO => exact (by (with_reducible repeat (first | apply Kd.R_alloc | apply Kd.R_drewN | apply Kd.R_drew)); exact HO_7.out)); (case aS => exact (below_size (by repeat (first | (with_reducible first | exact HB.out | apply below_alloc | apply pw_below_drewN | apply below_drew1) | exact HB.out)))); (case aL => have := LMc20.out; omega); intro v121 w24 ho hb hg hat; rw [← Ny120.out] at ho; have n0_ := Aside0.mk (hb); have n1_ := Aside0.mk (ho); clear HB; clear HO_7; have HB := n0_; have HO122 := n1_; clear n0_ n1_; clear ho hb hg hat))
           go_roundg k2
           case measure => have := HJ2.out; have := HK2.out; omega
           case rel => exact ⟨(x1_2.extract ((x1_2.size : Int) : Int).toNat x1_2.size), (y120), (wrap64 (x30_2 + 1)), (by first | rfl | (simp; done) | (simp [*]; done)), (by first | rfl | (simp; done) | (simp [*]; done)), H', ⟨by have := HJ2.out; have := HK2.out; omega⟩, ⟨by (with_reducible repeat (first | apply Kd.R_alloc | apply Kd.R_drewN | apply Kd.R_drew)); exact HO122.out⟩, ⟨by repeat (first | (with_reducible first | exact HB.out | apply below_alloc | apply pw_below_drewN | apply below_drew1) | exact HB.out)⟩⟩
          ·rw [if_neg c20] at H
           exact absurd H (by simp)
         ·rw [if_neg c18] at H
          exact absurd H (by simp)
        ·rw [if_neg c17] at H
         exact absurd H (by simp)
      ·rw [if_neg c8] at H
       have c8b0 : decide (x30_2 < (wrap64 (Int.tdiv (wrap64 ((wrap64 ((a1.size : Int) + 49)) - 1)) 49))) = false := decide_eq_false c8
       clear c8
       simp only [Option.some.injEq, Prod.mk.injEq] at H
       obtain ⟨rfl, rfl⟩ := H
       go_wp2
       go_ret2
       exact ⟨_, by first | rfl | (simp [errW_none, errW_some] <;> rfl) | (simp [*, errW_none, errW_some] <;> rfl), by (with_reducible repeat (first | apply Kd.R_alloc | apply Kd.R_drewN | apply Kd.R_drew)); exact HO_7.out, by repeat (first | (with_reducible first | exact HB.out | apply below_alloc | apply pw_below_drewN | apply below_drew1) | exact HB.out)⟩
end Go.Proofs.Ytckfkbmefdmedaa.Q
namespace Go.Proofs.Ytckfkbmefdmedaa
open Go.RowKit Go.Proofs.Kq Go.Proofs.Ytckfkbmefdmedaa.Q Go.Proofs.YtckfkbmefdmedaaW.PrintWords Go
set_option linter.unusedVariables false
set_option linter.unusedSimpArgs false
def bl (s : ByteArray) : List UInt8 := s.data.toList
def chunk (L : List UInt8) (i : Nat) : ByteArray := ⟨((L.drop (49 * i)).take 49).toArray⟩
def blkR (n : Int) (L : List UInt8) (c : Nat) : Nat → Nat → List ByteArray
  | _, 0 => []
  | i, r + 1 => oneF n i c (chunk L i) :: blkR n L c (i + 1) r
theorem blkR_len (n : Int) (L : List UInt8) (c : Nat) : ∀ r i, (blkR n L c i r).length = r
  | 0, i => rfl
  | r + 1, i => by simp [blkR, blkR_len n L c r]
theorem blkR_get (n : Int) (L : List UInt8) (c : Nat) : ∀ r i j, (h : j < r) → (blkR n L c i r)[j]'(by rw [blkR_len]; exact h) = oneF n ((i + j : Nat) : Int) c (chunk L (i + j))
  | 0, i, j, h => by omega
  | r + 1, i, 0, h => rfl
  | r + 1, i, j + 1, h => by
    have := blkR_get n L c r (i + 1) j (by omega)
    simp only [blkR, List.getElem_cons_succ]
    rw [this, show i + 1 + j = i + (j + 1) by omega]
theorem ba_size (s : ByteArray) : s.size = (bl s).length := by simp [bl]
theorem ba_of (s : ByteArray) : s = ⟨(bl s).toArray⟩ := by apply ByteArray.ext; simp [bl]
theorem bl_extract (s : ByteArray) (a b : Nat) : bl (s.extract a b) = ((bl s).drop a).take (b - a) := by
  simp [bl, List.extract]
theorem ba_ext {s t : ByteArray} (h : bl s = bl t) : s = t := by rw [ba_of s, ba_of t, h]
theorem chunk_size (L : List UInt8) (i : Nat) : (chunk L i).size = min 49 (L.length - 49 * i) := by rw [ba_size]; simp [chunk, bl]
theorem chunk_a (L : List UInt8) (i : Nat) (x : ByteArray) (hx : bl x = L.drop (49 * i)) : x.extract 0 49 = chunk L i := by
  apply ba_ext; rw [bl_extract, hx]; simp [chunk, bl]
theorem chunk_b (L : List UInt8) (i : Nat) (x : ByteArray) (hx : bl x = L.drop (49 * i)) (h : ¬ 49 < x.size) : x.extract 0 x.size = chunk L i := by
  have hl : (L.drop (49 * i)).length ≤ 49 := by rw [← hx, ← ba_size]; omega
  apply ba_ext; rw [bl_extract, hx, ba_size, hx]
  show _ = List.take 49 _
  rw [List.drop_zero, Nat.sub_zero, List.take_length, List.take_of_length_le hl]
theorem rest_a (L : List UInt8) (i : Nat) (x : ByteArray) (hx : bl x = L.drop (49 * i)) (d : ByteArray) (hd : d = chunk L i) : bl (x.extract d.size x.size) = L.drop (49 * (i + 1)) := by
  have h1 : x.size = L.length - 49 * i := by rw [ba_size, hx]; simp
  have h2 : d.size = min 49 (L.length - 49 * i) := by rw [hd, chunk_size]
  rw [bl_extract, hx, List.drop_drop, List.take_of_length_le (by simp; omega)]
  by_cases h : 49 ≤ L.length - 49 * i
  · rw [h2, Nat.min_eq_left h, Nat.mul_succ, Nat.add_comm]
  · rw [List.drop_eq_nil_of_le (by omega), List.drop_eq_nil_of_le (by omega)]
theorem pk_loop (n : Int) (L : List UInt8) (hL : L.length ≤ 1000000) (c : Nat) (hc : c ≤ 255) : ∀ (r i : Nat) (x : ByteArray) (acc : List ByteArray), i + r = c → bl x = L.drop (49 * i) → acc.length ≤ i →
    EvT (fun k => block_Pack.l0 k n x c acc c i) (acc ++ blkR (n % 4294967296) L c i r, 0)
  | 0, i, x, acc, hi, hx, ha => by
    refine EvT.done (fun k => ?_)
    simp only [block_Pack.l0, blkR, List.append_nil]
    rw [if_neg (by omega)]
  | r + 1, i, x, acc, hi, hx, ha => by
    have hd : (chunk L i).size ≤ 49 := by rw [chunk_size]; omega
    have h1 : x.size = L.length - 49 * i := by rw [ba_size, hx]; simp
    have hlen : acc.length < 8796093022208 := by omega
    by_cases h : 49 < x.size
    · have ih := pk_loop n L hL c hc r (i + 1) (x.extract 49 x.size) (acc ++ [oneF (n % 4294967296) i c (chunk L i)]) (by omega) (by
        have := rest_a L i x hx (chunk L i) rfl
        rwa [chunk_size, Nat.min_eq_left (by omega)] at this) (by simp; omega)
      rw [List.append_assoc] at ih
      refine EvT.step (fun k => ?_) ih
      simp only [block_Pack.l0]
      rw [if_pos (by omega), if_pos (by omega), if_pos (by omega), if_pos (by omega), chunk_a L i x hx, one_ok _ _ _ _ hd]
      simp only [Option.bind_some]
      rw [if_pos hlen, nx i (by omega)]
    · have ih := pk_loop n L hL c hc r (i + 1) (x.extract x.size x.size) (acc ++ [oneF (n % 4294967296) i c (chunk L i)]) (by omega) (by
        have := rest_a L i x hx (chunk L i) rfl
        rwa [show (chunk L i).size = x.size by rw [chunk_size]; omega] at this) (by simp; omega)
      rw [List.append_assoc] at ih
      refine EvT.step (fun k => ?_) ih
      simp only [block_Pack.l0]
      rw [if_pos (by omega), if_neg (by omega), if_pos (by omega), if_pos (by omega), Int.toNat_natCast, chunk_b L i x hx h, one_ok _ _ _ _ hd]
      simp only [Option.bind_some]
      rw [if_pos hlen, nx i (by omega)]
def cntL (n : Nat) : Nat := (n + 48) / 49
def packF (n : Int) (L : List UInt8) : List ByteArray × Int := if cntL L.length < 1 ∨ 255 < cntL L.length ∨ n < 0 ∨ 4294967295 ≤ n then ([], 1) else (blkR n L (cntL L.length) 0 (cntL L.length), 0)
theorem pack_ok (n : Int) (p : ByteArray) (hL : p.size ≤ 1000000) : EvT (fun k => block_Pack.f k n p) (packF n (bl p)) := by
  have e : wrap64 (Int.tdiv (wrap64 ((wrap64 ((p.size : Int) + 49)) - 1)) 49) = (cntL (bl p).length : Int) := by
    rw [← ba_size]
    have e1 : wrap64 ((wrap64 ((p.size : Int) + 49)) - 1) = ((p.size + 48 : Nat) : Int) := by unfold wrap64; omega
    rw [e1, Int.tdiv_eq_ediv_of_nonneg (by omega)]
    unfold cntL wrap64; omega
  have hs := ba_size p
  unfold block_Pack.f packF
  rw [e]
  by_cases h1 : cntL (bl p).length < 1
  · rw [if_pos (.inl h1)]
    refine EvT.congr (fun k => if_pos (by omega)) (EvT.done fun k => ?_)
    simp only [block_Pack.j0]; rw [if_pos trivial]
  by_cases h2 : 255 < cntL (bl p).length
  · rw [if_pos (.inr (.inl h2))]
    refine EvT.congr (fun k => (if_neg (by omega)).trans (if_pos (by omega))) (EvT.done fun k => ?_)
    simp only [block_Pack.j0]; rw [if_pos trivial]
  by_cases h3 : n < 0
  · rw [if_pos (.inr (.inr (.inl h3)))]
    refine EvT.congr (fun k => (if_neg (by omega)).trans ((if_neg (by omega)).trans (if_pos h3))) (EvT.done fun k => ?_)
    simp only [block_Pack.j0]; rw [if_pos trivial]
  by_cases h4 : 4294967295 ≤ n
  · rw [if_pos (.inr (.inr (.inr h4)))]
    refine EvT.congr (fun k => (if_neg (by omega)).trans ((if_neg (by omega)).trans (if_neg h3))) (EvT.done fun k => ?_)
    simp only [block_Pack.j0]; rw [if_pos (decide_eq_true h4)]
  · rw [if_neg (by omega)]
    have h := pk_loop n (bl p) (by omega) (cntL (bl p).length) (by omega) (cntL (bl p).length) 0 p [] (by omega) (by simp) (by simp)
    rw [show n % 4294967296 = n by omega, List.nil_append] at h
    refine EvT.congr (fun k => (if_neg (by omega)).trans ((if_neg (by omega)).trans (if_neg h3))) (EvT.step (fun k => ?_) h)
    simp only [block_Pack.j0]; rw [if_neg (by rw [decide_eq_false (by omega)]; decide)]; rfl
end Go.Proofs.Ytckfkbmefdmedaa
namespace Go.Proofs.Ytckfkbmefdmedaa.Q
open Go.RowKit Go.Proofs.YtckfkbmefdmedaaW.PrintWords Go.Proofs.YtckfkbmefdmedaaW.PrintLast Go.Proofs.YtckfkbmefdmedaaW.PrintMore
attribute [local go_sem] max2_int min2_int max_two min_two max_three min_three max_four min_four   -- for this text's walks alone
set_option linter.unusedVariables false
set_option linter.unusedSimpArgs false
def block_whole.l0 : Nat → Int → List ByteArray → Int → Int → Option (Bool)
 | 0, _, _, _, _ => none
 | k + 1, x1, x7, x8, x9 => if x9 < x8 then (if 0 ≤ x9 then (if x9 < (x7.length : Int) then (if 5 < ((rdOf ByteArray.empty x7 x9).size : Int) then (if (wrap64 (bt (rdOf ByteArray.empty x7 x9) 5)) = x1 then (block_whole.l0 k x1 x7 x8 (wrap64 (x9 + 1))) else (some false)) else (none)) else (none)) else (none)) else (some true)
def block_whole.f (k : Nat) (l0 : List ByteArray) (a1 : Int) : Option (Bool) := block_whole.l0 k a1 l0 (l0.length : Int) 0
set_option maxHeartbeats 8000000 in
set_option maxRecDepth 100000 in
theorem block_whole.calls (k : Nat) (A0 : Option Addr) (c0 : Nat) (l0 : List ByteArray) (a1 : Int) (r : Bool) (w : World) (hr0 : Kd.C Kd.string w A0 l0.length l0) (hc0 : l0.length ≤ c0) (h : block_whole.f k l0 a1 = some r) :
  Calls Try.prog 67 #[.slice A0 l0.length c0, .int .i64 a1] w fun e w' => e = .returned (.bool r) ∧ Drawn0 w w' := by
 have HR0 := Aside0.mk hr0
 have HC0 := Aside0.mk hc0
 clear hr0 hc0
 have H : (block_whole.l0 k a1 l0 (l0.length : Int) 0) = some r := h
 clear h
 have H' := Aside0.mk H
 clear H
 go_enter Try.func67, Try.ntmps67
 go_wp2
 go_loopg [9] k (fun kq v9 w' => ∃ (x9_1 : Int), v9 = .int .i64 x9_1 ∧ Aside0 (block_whole.l0 kq a1 l0 (l0.length : Int) x9_1 = some r) ∧ Aside0 (kq ≤ k) ∧ Drawn0 w w')
 case atStart => exact ⟨(0), (by first | rfl | (simp; done) | (simp [*]; done)), H', ⟨Nat.le_refl _⟩, by repeat (first | exact Drawn0.refl _ | apply Drawn0.step)⟩
 case round =>
  clear H'
  try clear p2
  obtain ⟨x9_1, rfl, HA, HK1, ⟨m1, rfl⟩⟩ := hrel
  cases gk with
  | zero => exact absurd HA.out (by simp [block_whole.l0])
  | succ k1 =>
   have H := HA.out
   clear HA
   simp only [block_whole.l0] at H
   by_cases c3 : x9_1 < (l0.length : Int)
   ·rw [if_pos c3] at H
    have c3b0 : decide (x9_1 < (l0.length : Int)) = true := decide_eq_true c3
    clear c3
    by_cases c4 : 0 ≤ x9_1
    ·rw [if_pos c4] at H
     have c4b0 : decide (0 ≤ x9_1) = true := decide_eq_true c4
     clear c4
     by_cases c5 : x9_1 < (l0.length : Int)
     ·rw [if_pos c5] at H
      have c5b0 : decide (x9_1 < (l0.length : Int)) = true := decide_eq_true c5
      clear c5
      by_cases c6 : 5 < ((rdOf ByteArray.empty l0 x9_1).size : Int)
      ·rw [if_pos c6] at H
       have c6b0 : decide (5 < ((rdOf ByteArray.empty l0 x9_1).size : Int)) = true := decide_eq_true c6
       have c6b1 : decide (5 < (rdOf ByteArray.empty l0 x9_1).size) = true := decide_eq_true (by omega)
       clear c6
       by_cases c8 : (wrap64 (bt (rdOf ByteArray.empty l0 x9_1) 5)) = a1
       ·rw [if_pos c8] at H
        have c8b0 : ((wrap64 (bt (rdOf ByteArray.empty l0 x9_1) 5)) == a1) = true := beq_iff_eq.mpr c8
        have c8b1 : ((wrap64 (bt (rdOf ByteArray.empty l0 x9_1) 5)) != a1) = false := bne_eq_false_iff_eq.mpr c8
        clear c8
        have H' := Aside0.mk H
        clear H
        have p131 : 0 ≤ (x9_1 : Int) := of_decide_eq_true (by first | (with_reducible assumption) | assumption)
        have q131 : x9_1 < (l0.length : Int) := of_decide_eq_true (by first | (with_reducible assumption) | assumption)
        obtain ⟨ad131, e131, hx131_0⟩ := Kd.at_string HR0.out x9_1 p131 q131
        cases e131
        replace p131 := eq_true p131
        replace q131 := eq_true q131
        have p7 : 0 ≤ (5 : Int) := (by omega)
        have q7 : 5 < (rdOf ByteArray.empty l0 x9_1).size := (by have : (5 : Int) < ((rdOf ByteArray.empty l0 x9_1).size : Int) := of_decide_eq_true (by first | (with_reducible assumption) | assumption); omega)
        have hx7 : ∀ h : 5 < (rdOf ByteArray.empty l0 x9_1).size, (((rdOf ByteArray.empty l0 x9_1)[5]'h).toNat : Int) = bt (rdOf ByteArray.empty l0 x9_1) 5 := bt_at (rdOf ByteArray.empty l0 x9_1) 5
        clear p7
        have qi7 : (5 < ((rdOf ByteArray.empty l0 x9_1).size : Int)) = True := eq_true (of_decide_eq_true (by first | (with_reducible assumption) | assumption))
        replace q7 := eq_true q7
        go_wp2
        go_roundg k1
        case measure => have := HK1.out; omega
        case rel => exact ⟨(wrap64 (x9_1 + 1)), (by first | rfl | (simp; done) | (simp [*]; done)), H', ⟨by have := HK1.out; omega⟩, by repeat (first | exact Drawn0.refl _ | apply Drawn0.step)⟩
       ·rw [if_neg c8] at H
        have c8b0 : ((wrap64 (bt (rdOf ByteArray.empty l0 x9_1) 5)) == a1) = false := beq_eq_false_iff_ne.mpr c8
        have c8b1 : ((wrap64 (bt (rdOf ByteArray.empty l0 x9_1) 5)) != a1) = true := bne_iff_ne.mpr c8
        obtain rfl := Option.some.inj H
        have p131 : 0 ≤ (x9_1 : Int) := of_decide_eq_true (by first | (with_reducible assumption) | assumption)
        have q131 : x9_1 < (l0.length : Int) := of_decide_eq_true (by first | (with_reducible assumption) | assumption)
        obtain ⟨ad131, e131, hx131_0⟩ := Kd.at_string HR0.out x9_1 p131 q131
        cases e131
        replace p131 := eq_true p131
        replace q131 := eq_true q131
        have p7 : 0 ≤ (5 : Int) := (by omega)
        have q7 : 5 < (rdOf ByteArray.empty l0 x9_1).size := (by have : (5 : Int) < ((rdOf ByteArray.empty l0 x9_1).size : Int) := of_decide_eq_true (by first | (with_reducible assumption) | assumption); omega)
        have hx7 : ∀ h : 5 < (rdOf ByteArray.empty l0 x9_1).size, (((rdOf ByteArray.empty l0 x9_1)[5]'h).toNat : Int) = bt (rdOf ByteArray.empty l0 x9_1) 5 := bt_at (rdOf ByteArray.empty l0 x9_1) 5
        clear p7
        have qi7 : (5 < ((rdOf ByteArray.empty l0 x9_1).size : Int)) = True := eq_true (of_decide_eq_true (by first | (with_reducible assumption) | assumption))
        replace q7 := eq_true q7
        go_wp2
        go_ret
        exact ⟨by first | rfl | (simp; done) | (simp [*]; done), by repeat (first | exact Drawn0.refl _ | apply Drawn0.step)⟩
      ·rw [if_neg c6] at H
       exact absurd H (by simp)
     ·rw [if_neg c5] at H
      exact absurd H (by simp)
    ·rw [if_neg c4] at H
     exact absurd H (by simp)
   ·rw [if_neg c3] at H
    have c3b0 : decide (x9_1 < (l0.length : Int)) = false := decide_eq_false c3
    clear c3
    obtain rfl := Option.some.inj H
    go_wp2
    go_ret
    exact ⟨by first | rfl | (simp; done) | (simp [*]; done), by repeat (first | exact Drawn0.refl _ | apply Drawn0.step)⟩
end Go.Proofs.Ytckfkbmefdmedaa.Q
namespace Go.Proofs.Ytckfkbmefdmedaa
open Go.RowKit Go.Proofs.Kq
set_option linter.unusedVariables false
set_option linter.unusedSimpArgs false
def Bld (base b : Nat) (bs : List UInt8) (w : World) : Prop := Lib.IsBuilder 113 5 base b (Lib.byteCells bs) w
theorem builderAt_below {p : Value} {base b : Nat} {bs : List Value} {w w1 : World} (h : Lib.BuilderAt 113 5 base b p bs w) (hb : Below w.heap.size w w1) : Lib.BuilderAt 113 5 base b p bs w1 := by
  have hlt := h.lt
  obtain ⟨h0, v, h1, h2, h3⟩ := h
  have ho : Go.Proofs.Kq.Own (fun v : Value => [v]) 1 5 w base v bs := by simpa [Go.Proofs.Kq.Own] using h2
  have ho2 := ho.below hb
  exact ⟨h0, v, by rw [hb.block b hlt]; exact h1, by simpa [Go.Proofs.Kq.Own] using ho2, h3⟩
theorem Bld.below {base b : Nat} {bs : List UInt8} {w w1 : World} (h : Bld base b bs w) (hb : Below w.heap.size w w1) : Bld base b bs w1 :=
  h.imp (fun x => builderAt_below x hb) (fun x => builderAt_below x hb)
theorem Bld.new {w0 w : World} (hb : Below w0.heap.size w0 w) : Bld w0.heap.size w.heap.size [] (w.alloc (.cells #[.pointer none, .slice none 0 0] 113)) :=
  .inl ⟨hb.size, .slice none 0 0, by (show (w.heap.push _)[w.heap.size]? = _; simp), ⟨by simp [Lib.byteCells], .inl ⟨rfl, by simp [Lib.byteCells]⟩⟩, by simp [Value.ownBlock]⟩
theorem wstr_any (base b : Nat) (bs : List UInt8) (s : ByteArray) (w : World) (h : Bld base b bs w) (hl : bs.length + s.size ≤ 140737488355328) (hB : base ≤ w.heap.size) :
    Calls Try.prog 66 #[.pointer (some ⟨b, 0, none⟩), .string s] w fun e w' => e = .returned (.tuple #[.int .i64 s.size, .nilIface]) ∧ Bld base b (bs ++ s.data.toList) w' ∧ Below base w w' := by
  refine (Any.Builder_WriteString (P := Try.prog) (ρ := Try.lays105_ren) { Try.lays105 with } Try.Builder_Extra_105 base b (Lib.byteCells bs) s w h (by simpa [Lib.byteCells] using hl) hB).mono ?_
  rintro e w' ⟨rfl, h1, h2⟩
  refine ⟨rfl, .inr ?_, h2⟩
  have e : Lib.byteCells (bs ++ s.data.toList) = Lib.byteCells bs ++ Lib.strCells s := by simp [Lib.byteCells, Lib.strCells]
  rw [e]; exact h1
theorem bstr_any (base b : Nat) (bs : List UInt8) (w : World) (h : Bld base b bs w) (hB : base ≤ w.heap.size) :
    Calls Try.prog 68 #[.pointer (some ⟨b, 0, none⟩)] w fun e w' => e = .returned (.string ⟨bs.toArray⟩) ∧ Below base w w' :=
  Try.Builder_String_any base b bs w h hB
end Go.Proofs.Ytckfkbmefdmedaa
namespace Go.Proofs.Ytckfkbmefdmedaa
open Go.RowKit Go.Proofs.YtckfkbmefdmedaaW.PrintWords Go.Proofs.YtckfkbmefdmedaaW.PrintLast
set_option linter.unusedVariables false
set_option linter.unusedSimpArgs false
theorem C_ints {k : IntKind} {w : World} {A : Option Addr} {xs : List Int} (h : Kd.C (Kd.int k) w A xs.length xs) (hn : 0 < xs.length) :
    ∃ b off, A = some ⟨b, off, none⟩ ∧ ∀ (i : Nat) (hi : i < xs.length), w.cell? ⟨b, off + i, none⟩ = some (.int k xs[i]) := by
  obtain ⟨ad, rfl, hc⟩ := (Kd.reads_of_C (d := (0 : Int)) h).2.2 hn
  have hsp : ad.spot = none := by
    have h1 := Rk.spot_none (hc 0 hn)
    simpa [Addr.add] using h1
  refine ⟨ad.block, ad.off, by rw [← Kp.addr_eta hsp], fun i hi => ?_⟩
  have := hc i hi
  rw [Kp.addr_eta hsp, Kp.add_plain', List.getD_eq_getElem?_getD, List.getElem?_eq_getElem hi] at this
  simpa using this
end Go.Proofs.Ytckfkbmefdmedaa
namespace Go.Proofs.Ytckfkbmefdmedaa
open Go.RowKit Go.Proofs.Kq Go.Proofs.Ytckfkbmefdmedaa.Q
open Go.Proofs.YtckfkbmefdmedaaW.PrintWords (pw_cell_below Kd Kd.C Kd.C_below bt rdOf)
set_option linter.unusedVariables false
set_option linter.unusedSimpArgs false
def lenB (s : ByteArray) : Nat := (s.data.getD 6 0).toNat
def cntB (s : ByteArray) : Nat := (s.data.getD 5 0).toNat
def datB (s : ByteArray) : ByteArray := s.extract 7 (7 + lenB s)
def badU : ByteArray × Int × Int := (⟨#[]⟩, 0, 5)
def okB (number : Int) (i : Nat) (s : ByteArray) : Bool :=
  decide (s.size = 64) && decide (lenB s ≤ 49) && decide (0 < lenB s) && decide (oneF number (i : Int) (cntB s : Int) (datB s) = s) && decide (i < cntB s) && !(decide (i + 1 < cntB s) && decide (lenB s < 49))
def wholeB (l : List ByteArray) (n : Nat) : Bool := l.all fun s => decide (cntB s = n)
def unpF (number : Int) (all : List ByteArray) : Nat → Nat → List UInt8 → ByteArray × Int × Int
  | 0, _, _ => badU
  | d + 1, i, out =>
    let s := all.getD i ByteArray.empty
    if okB number i s = true then
      (if cntB s = i + 1 then (if wholeB (all.take (i + 1)) (i + 1) = true then (⟨(out ++ (datB s).data.toList).toArray⟩, ((i + 1 : Nat) : Int), 0) else badU)
       else if i + 1 = 255 then badU else unpF number all d (i + 1) (out ++ (datB s).data.toList))
    else badU
def unpackF (number : Int) (l : List ByteArray) : ByteArray × Int × Int :=
  if l.length = 0 then (⟨#[]⟩, 0, 4) else if number < 0 ∨ 4294967295 ≤ number then (⟨#[]⟩, 0, 1) else unpF number l l.length 0 []
theorem unpF_bad (number : Int) (all : List ByteArray) (k : Nat) (out : List UInt8) (h : k < all.length) (hb : okB number k all[k] = false) : unpF number all (all.length - k) k out = badU := by
  rw [show all.length - k = (all.length - (k + 1)) + 1 by omega]
  simp only [unpF, List.getD_eq_getElem?_getD, List.getElem?_eq_getElem h, Option.getD_some, hb]
  rfl
theorem unpF_end (number : Int) (all : List ByteArray) (k : Nat) (out : List UInt8) (h : k < all.length) (hb : okB number k all[k] = true) (hc : cntB all[k] = k + 1) : unpF number all (all.length - k) k out = if wholeB (all.take (k + 1)) (k + 1) = true then (⟨(out ++ (datB all[k]).data.toList).toArray⟩, ((k + 1 : Nat) : Int), 0) else badU := by
  rw [show all.length - k = (all.length - (k + 1)) + 1 by omega]
  simp only [unpF, List.getD_eq_getElem?_getD, List.getElem?_eq_getElem h, Option.getD_some, hb, hc, if_true]
theorem unpF_full (number : Int) (all : List ByteArray) (k : Nat) (out : List UInt8) (h : k < all.length) (hc : ¬ cntB all[k] = k + 1) (h5 : k + 1 = 255) : unpF number all (all.length - k) k out = badU := by
  rw [show all.length - k = (all.length - (k + 1)) + 1 by omega]
  simp only [unpF, List.getD_eq_getElem?_getD, List.getElem?_eq_getElem h, Option.getD_some]
  split
  · first | rfl | rw [if_neg hc, if_pos h5]
  · rfl
theorem unpF_next (number : Int) (all : List ByteArray) (k : Nat) (out : List UInt8) (h : k < all.length) (hb : okB number k all[k] = true) (hc : ¬ cntB all[k] = k + 1) (h5 : ¬ k + 1 = 255) : unpF number all (all.length - k) k out = unpF number all (all.length - (k + 1)) (k + 1) (out ++ (datB all[k]).data.toList) := by
  rw [show all.length - k = (all.length - (k + 1)) + 1 by omega]
  rw [unpF]
  simp only [List.getD_eq_getElem?_getD, List.getElem?_eq_getElem h, Option.getD_some, hb, if_true]
  rw [if_neg hc, if_neg h5]
theorem whole_loop (l : List ByteArray) (n : Nat) (hn : n < 256) (h64 : ∀ s ∈ l, s.size = 64) (hl : l.length ≤ 1000000) : ∀ r i : Nat, i + r = l.length → EvT (fun k => block_whole.l0 k n l l.length i) (wholeB (l.drop i) n)
  | 0, i, hi => by
    refine EvT.done (fun k => ?_)
    simp only [block_whole.l0]
    rw [if_neg (by omega), List.drop_eq_nil_of_le (by omega)]; rfl
  | r + 1, i, hi => by
    have ih := whole_loop l n hn h64 hl r (i + 1) (by omega)
    have hlt : i < l.length := by omega
    have hs := h64 l[i] (List.getElem_mem hlt)
    have hrd : rdOf ByteArray.empty l (i : Int) = l[i] := by simp [rdOf, hlt]
    have hbt : wrap64 (bt l[i] 5) = (cntB l[i] : Int) := by
      have h5 : 5 < l[i].size := by omega
      have e5 : (l[i][5]'h5).toNat = cntB l[i] := by simp [cntB, Array.getD, h5]; rfl
      have := (l[i][5]'h5).toNat_lt
      rw [show bt l[i] 5 = ((l[i][5]'h5).toNat : Int) by simp [bt, h5]]
      unfold wrap64; omega
    rw [List.drop_eq_getElem_cons hlt]
    by_cases hq : cntB l[i] = n
    · refine EvT.step (fun k => ?_) (show EvT (fun k => block_whole.l0 k n l l.length ((i + 1 : Nat) : Int)) _ by
        have e : wholeB (l[i] :: l.drop (i + 1)) n = wholeB (l.drop (i + 1)) n := by unfold wholeB; rw [List.all_cons, decide_eq_true hq, Bool.true_and]
        rw [e]; exact ih)
      simp only [block_whole.l0]
      rw [if_pos (by omega), if_pos (by omega), if_pos (by omega), hrd, if_pos (by omega), hbt, if_pos (by omega), nx i (by omega)]
    · have e : wholeB (l[i] :: l.drop (i + 1)) n = false := by unfold wholeB; rw [List.all_cons, decide_eq_false hq, Bool.false_and]
      rw [e]
      refine EvT.done (fun k => ?_)
      simp only [block_whole.l0]
      rw [if_pos (by omega), if_pos (by omega), if_pos (by omega), hrd, if_pos (by omega), hbt, if_neg (by omega)]
theorem whole_ok (l : List ByteArray) (n : Nat) (hn : n < 256) (h64 : ∀ s ∈ l, s.size = 64) (hl : l.length ≤ 1000000) : ∃ K, block_whole.f K l n = some (wholeB l n) := by
  have h := whole_loop l n hn h64 hl l.length 0 (by omega)
  exact EvT.one (f := fun k => block_whole.f k l n) h
def UnpP (r : ByteArray × Int × Int) (w : World) (e : Ending) (w' : World) : Prop := e = .returned (.tuple #[.string r.1, .int .i64 r.2.1, .int .i64 r.2.2]) ∧ Below w.heap.size w w'
set_option maxRecDepth 100000 in
set_option maxHeartbeats 4000000 in
theorem unp_any (number : Int) (A : Option Addr) (c : Nat) (xs : List ByteArray) (w : World) (hC : Kd.C Kd.string w A xs.length xs) (hn0 : 0 ≤ number) (hn1 : number < 4294967295) (hcc : xs.length ≤ c) (hl : xs.length ≤ 10000000000000) (h0 : 0 < xs.length) :
    Calls Try.prog 14 #[.int .i64 number, .slice A xs.length c] w (UnpP (unpF number xs xs.length 0 []) w) := by
  obtain ⟨ad, rfl, hx⟩ := (Kd.reads_of_C (d := ByteArray.empty) hC).2.2 h0
  have hsp : ad.spot = none := by
    have h1 := Rk.spot_none (hx 0 h0)
    simpa [Addr.add] using h1
  obtain ⟨b, off, rfl⟩ : ∃ b off, ad = ⟨b, off, none⟩ := ⟨ad.block, ad.off, by rw [← Kp.addr_eta hsp]⟩
  have HX : Hid (∀ (i : Nat) (hi : i < xs.length), w.cell? ⟨b, off + i, none⟩ = some (.string xs[i])) := hidI fun i hi => by
    have := hx i hi
    rw [Kp.add_plain', List.getD_eq_getElem?_getD, List.getElem?_eq_getElem hi] at this
    simpa using this
  have HN := Bld.new (Below.refl w.heap.size w)
  have hne : ¬ (xs.length = 0) := by omega
  have hnd : decide ((xs.length : Int) = 0) = false := decide_eq_false (by omega)
  have hn2 : decide (number < 0) = false := decide_eq_false (by omega)
  have hn3 : decide (4294967295 ≤ number) = false := decide_eq_false (by omega)
  have HC := hidI hC
  clear hx hC
  go_enter Try.func14, Try.ntmps14
  go_wp2
  apply wp_scope_straight
  go_wp2
  apply wp_label
  go_wp2
  obtain ⟨R, hR⟩ : ∃ R, unpF number xs xs.length 0 [] = R := ⟨_, rfl⟩
  rw [hR]
  have HR := hidI hR
  clear hR
  go_loopw [23] (fun i wr => ∃ k : Nat, k ≤ xs.length ∧ k ≤ 254 ∧ i = .int .i64 k ∧ ∃ out : List UInt8, out.length ≤ k * 49 ∧ Hid (Bld w.heap.size w.heap.size out wr ∧ Below w.heap.size w wr ∧ unpF number xs (xs.length - k) k out = R ∧ ∀ (j : Nat) (hj : j < xs.length), j < k → xs[j].size = 64)) (fun i _ => xs.length - (intOf i).toNat)
  case atStart => exact ⟨0, Nat.zero_le _, Nat.zero_le _, rfl, [], by simp, hidI ⟨HN, below_new (Below.refl _ _) _, HR.out, fun j hj h => absurd h (by omega)⟩⟩
  case round =>
    obtain ⟨k, hk, hk254, rfl, out, hout, hI⟩ := hrel
    by_cases hlt : k < xs.length
    · obtain ⟨s, hs⟩ : ∃ s, s = xs[k] := ⟨_, rfl⟩
      have q0 : wr.cell? ⟨b, off + k, none⟩ = some (.string s) := by rw [hs]; exact pw_cell_below hI.out.2.1 (HX.out k hlt)
      have HS := hidI hs
      have HK := hidI hlt
      clear hs
      by_cases h64 : s.size = 64
      · have p5 : 5 < s.size := by omega
        have p6 : 6 < s.size := by omega
        have e6 : (s[6]'p6).toNat = lenB s := by simp [lenB, Array.getD, p6]; rfl
        have e5 : (s[5]'p5).toNat = cntB s := by simp [cntB, Array.getD, p5]; rfl
        have l5 : cntB s < 256 := by rw [← e5]; exact UInt8.toNat_lt _
        have l6 : lenB s < 256 := by rw [← e6]; exact UInt8.toNat_lt _
        have hbad : Hid (okB number k s = false → R = badU) := hidI fun h => by
          rw [← hI.out.2.2.1]; exact unpF_bad number xs k out HK.out (by rw [← HS.out]; exact h)
        by_cases g1 : 49 < lenB s ∨ lenB s = 0
        · have hR : R = badU := hbad.out (by rcases g1 with g | g <;> simp [okB, g]; omega)
          have hfin5 : ∀ w1, Below wr.heap.size wr w1 → UnpP (unpF number xs xs.length 0 []) w (.returned (.tuple #[.string ⟨#[]⟩, .int .i64 0, .int .i64 5])) w1 := fun w1 h => by
            rw [HR.out, hR]; exact ⟨rfl, below_step hI.out.2.1 h⟩
          have HF5 := hidI hfin5
          clear hfin5
          go_wp2_with fail
          go_region
          all_goals
            rcases g1 with g | g
            · have g4 : decide (49 < (lenB s : Int)) = true := decide_eq_true (by omega)
              go_wp2_with fail
              rw [Exit.noGoto_ret]
              go_ret3
              exact HF5.out _ (Below.refl _ wr).drew
            · have g4 : decide (49 < (lenB s : Int)) = false := decide_eq_false (by omega)
              have g5 : ((lenB s : Int) == 0) = true := by rw [g]; rfl
              clear g
              go_wp2_with fail
              rw [Exit.noGoto_ret]
              go_ret3
              exact HF5.out _ (Below.refl _ wr).drew
        · have g2 : ¬ 49 < lenB s := by omega
          have g3 : ¬ lenB s = 0 := by omega
          have g4 : decide (49 < (lenB s : Int)) = false := decide_eq_false (by omega)
          have g5 : ((lenB s : Int) == 0) = false := by simp; omega
          clear g1
          go_wp2_with fail
          go_region
          all_goals
            go_wp2_with fail
            refine (block_one.calls number (k : Int) (cntB s : Int) (s.extract 7 (7 + lenB s)) _ _ (one_ok _ _ _ _ (by simp; omega))).mono ?_
            rintro e w1 ⟨rfl, hb1⟩
            simp only []
            have hW1 : Below w.heap.size w w1 := below_step hI.out.2.1.drew hb1
            have hBw : Hid (w.heap.size ≤ w1.heap.size) := hidI hW1.size
            have HW1 := hidI hW1
            have hbd1 := (hI.out.1.below (Below.refl _ wr).drew).below hb1
            have HBD1 := hidI hbd1
            clear hW1 hbd1 hb1
            have hfin : Hid (R = badU → UnpP (unpF number xs xs.length 0 []) w (.returned (.tuple #[.string ⟨#[]⟩, .int .i64 0, .int .i64 5])) w1) := hidI fun h => by
              rw [HR.out, h]; exact ⟨rfl, HW1.out⟩
            by_cases hE : oneF number (k : Int) (cntB s : Int) (s.extract 7 (7 + lenB s)) = s
            · have hE1 : (s.toList == (oneF number (k : Int) (cntB s : Int) (s.extract 7 (7 + lenB s))).toList) = true := by rw [hE]; simp
              have HE := hidI hE
              clear hE
              by_cases hc : k < cntB s
              · have hc1 : decide ((cntB s : Int) ≤ (k : Int)) = false := decide_eq_false (by omega)
                have hc0 : ¬ cntB s ≤ k := by omega
                have hds : (s.extract 7 (7 + lenB s)).size = lenB s := by rw [ByteArray.size_extract]; omega
                have hbb : out.length + (s.extract 7 (7 + lenB s)).size ≤ 140737488355328 := by rw [hds]; omega
                by_cases hq : cntB s = k + 1
                · have hc3 : ¬ ((k : Int) + 1 < (cntB s : Int)) := by omega
                  have hc3' : decide ((k : Int) + 1 < (cntB s : Int)) = false := decide_eq_false hc3
                  have hc6 : ((cntB s : Int) == (k : Int) + 1) = true := by rw [hq]; simp
                  have HQ := hidI hq
                  clear hq
                  have hk1 : k + 1 ≤ c := by omega
                  have hok : Hid (okB number k s = true) := hidI (by simp only [okB, datB, HE.out, h64]; simp [hc]; omega)
                  go_wp2_with fail
                  with_reducible refine (wstr_any w.heap.size w.heap.size out (s.extract 7 (7 + lenB s)) w1 HBD1.out hbb hBw.out).mono ?_
                  rintro e w2 ⟨rfl, hB2, hb2⟩
                  simp only []
                  go_wp2_with fail
                  have h64s : ∀ t ∈ xs.take (k + 1), t.size = 64 := by
                    intro t ht
                    obtain ⟨j, hj, rfl⟩ := List.getElem_of_mem ht
                    rw [List.length_take] at hj
                    rw [List.getElem_take]
                    by_cases e : j = k
                    · subst e; rw [← HS.out]; exact h64
                    · exact hI.out.2.2.2 j (by omega) (by omega)
                  have hlt' : (xs.take (k + 1)).length = k + 1 := by rw [List.length_take]; omega
                  obtain ⟨K, hK⟩ := whole_ok (xs.take (k + 1)) (cntB s) l5 h64s (by omega)
                  have hCw := block_whole.calls K (some ⟨b, off, none⟩) c (xs.take (k + 1)) (cntB s : Int) _ w2 (by
                    rw [hlt']
                    have := Go.Proofs.YtckfkbmefdmedaaW.PrintWords.Kd.C_take (Kd.C_below HC.out (HW1.out.trans hb2)) (m := k + 1) (by omega)
                    rw [hlt'] at this; exact this) (by rw [hlt']; exact hk1) hK
                  rw [hlt'] at hCw
                  clear h64s hlt' hK
                  with_reducible refine hCw.mono ?_
                  rintro e w3 ⟨rfl, hd3⟩
                  obtain ⟨m3, rfl⟩ := hd3
                  simp only []
                  have hRe : R = if wholeB (xs.take (k + 1)) (cntB s) = true then (⟨(out ++ (s.extract 7 (7 + lenB s)).data.toList).toArray⟩, ((k + 1 : Nat) : Int), 0) else badU := by
                    rw [← hI.out.2.2.1, unpF_end number xs k out HK.out (by rw [← HS.out]; exact hok.out) (by rw [← HS.out]; exact HQ.out), ← HS.out, HQ.out]; rfl
                  have HRe := hidI hRe
                  clear hRe
                  generalize wholeB (xs.take (k + 1)) (cntB s) = wh at *
                  have hB3 := hB2.below (Below.refl w2.heap.size w2 |> fun h => below_drewN h m3)
                  cases wh
                  · have hfin3 : Hid (UnpP (unpF number xs xs.length 0 []) w (.returned (.tuple #[.string ⟨#[]⟩, .int .i64 0, .int .i64 5])) (w2.drewN m3)) := hidI (by
                      rw [HR.out, HRe.out]; exact ⟨rfl, below_drewN (HW1.out.trans hb2) m3⟩)
                    go_wp2_with fail
                    rw [Exit.noGoto_ret]
                    go_ret3
                    exact hfin3.out
                  · go_wp2_with fail
                    with_reducible refine (bstr_any w.heap.size w.heap.size (out ++ (s.extract 7 (7 + lenB s)).data.toList) (w2.drewN m3) hB3 (below_drewN (HW1.out.trans hb2) m3).size).mono ?_
                    rintro e w4 ⟨rfl, hb4⟩
                    have hfin4 : Hid (UnpP (unpF number xs xs.length 0 []) w (.returned (.tuple #[.string ⟨(out ++ (s.extract 7 (7 + lenB s)).data.toList).toArray⟩, .int .i64 (cntB s), .int .i64 0])) w4) := hidI (by
                      rw [HR.out, HRe.out, ← HQ.out]; exact ⟨rfl, (below_drewN (HW1.out.trans hb2) m3).trans hb4⟩)
                    simp only []
                    go_wp2_with fail
                    rw [Exit.noGoto_ret]
                    go_ret3
                    first | exact hfin4.out | (have q := hfin4.out; rw [HR.out] at q; exact q)
                · by_cases hc2 : lenB s < 49
                  · have hR : R = badU := hbad.out (by simp [okB, hc2]; omega)
                    have hc3 : ((k : Int) + 1 < (cntB s : Int)) := by omega
                    have hc4 : decide ((lenB s : Int) < 49) = true := decide_eq_true (by omega)
                    have hc3' : decide ((k : Int) + 1 < (cntB s : Int)) = true := decide_eq_true hc3
                    go_wp2_with fail
                    rw [Exit.noGoto_ret]
                    go_ret3
                    exact hfin.out hR
                  · have hc3 : ((k : Int) + 1 < (cntB s : Int)) := by omega
                    have hc4 : decide ((lenB s : Int) < 49) = false := decide_eq_false (by omega)
                    have hc3' : decide ((k : Int) + 1 < (cntB s : Int)) = true := decide_eq_true hc3
                    have hc5 : (49 : Int) ≤ (lenB s : Int) := by omega
                    have hc6 : ((cntB s : Int) == (k : Int) + 1) = false := by simp; omega
                    go_wp2_with fail
                    with_reducible refine (wstr_any w.heap.size w.heap.size out (s.extract 7 (7 + lenB s)) w1 HBD1.out hbb hBw.out).mono ?_
                    rintro e w2 ⟨rfl, hB2, hb2⟩
                    simp only []
                    have hok : Hid (okB number k s = true) := hidI (by simp only [okB, datB, HE.out, h64]; simp [hc, hc2]; omega)
                    by_cases hq5 : k + 1 = 255
                    · have hq6 : ((k : Int) + 1 == 255) = true := by simp; omega
                      have hR : R = badU := by
                        rw [← hI.out.2.2.1]; exact unpF_full number xs k out HK.out (by rw [← HS.out]; exact hq) hq5
                      clear hq5
                      have hfin2 : Hid (UnpP (unpF number xs xs.length 0 []) w (.returned (.tuple #[.string ⟨#[]⟩, .int .i64 0, .int .i64 5])) w2) := hidI (by
                        rw [HR.out, hR]; exact ⟨rfl, HW1.out.trans hb2⟩)
                      go_wp2_with fail
                      rw [Exit.noGoto_ret]
                      go_ret3
                      exact hfin2.out
                    · have hq6 : ((k : Int) + 1 == 255) = false := by simp; omega
                      have hI2 : Hid (Bld w.heap.size w.heap.size (out ++ (s.extract 7 (7 + lenB s)).data.toList) w2 ∧ Below w.heap.size w w2 ∧ unpF number xs (xs.length - (k + 1)) (k + 1) (out ++ (s.extract 7 (7 + lenB s)).data.toList) = R ∧ ∀ (j : Nat) (hj : j < xs.length), j < k + 1 → xs[j].size = 64) := hidI ⟨hB2, HW1.out.trans hb2, by
                        rw [← hI.out.2.2.1, unpF_next number xs k out HK.out (by rw [← HS.out]; exact hok.out) (by rw [← HS.out]; exact hq) hq5, ← HS.out]; rfl, by
                        intro j hj hjk
                        by_cases e : j = k
                        · subst e; rw [← HS.out]; exact h64
                        · exact hI.out.2.2.2 j hj (by omega)⟩
                      go_wp2_with fail
                      go_roundw
                      · exact ⟨k + 1, by omega, by omega, by simp, _, by simp; omega, hI2⟩
                      · simp [intOf]; omega
              · have hR : R = badU := hbad.out (by simp [okB, hc])
                have hc1 : decide ((cntB s : Int) ≤ (k : Int)) = true := decide_eq_true (by omega)
                go_wp2_with fail
                rw [Exit.noGoto_ret]
                go_ret3
                exact hfin.out hR
            · have hR : R = badU := hbad.out (by simp [okB, datB, hE])
              have hE1 : (s.toList == (oneF number (k : Int) (cntB s : Int) (s.extract 7 (7 + lenB s))).toList) = false := by
                rw [beq_eq_false_iff_ne]
                intro e
                exact hE (ByteArray.ext (Array.ext' (by rw [ByteArray.toList_eq, ByteArray.toList_eq] at e; exact e))).symm
              clear hE
              go_wp2_with fail
              rw [Exit.noGoto_ret]
              go_ret3
              exact hfin.out hR
      · have hR : R = badU := by
          rw [← hI.out.2.2.1]; exact unpF_bad number xs k out HK.out (by rw [← HS.out]; simp [okB, h64])
        have hfin6 : Hid (UnpP (unpF number xs xs.length 0 []) w (.returned (.tuple #[.string ⟨#[]⟩, .int .i64 0, .int .i64 5])) wr) := hidI (by
          rw [HR.out, hR]; exact ⟨rfl, hI.out.2.1⟩)
        have h64' : ((s.size : Int) == 64) = false := by simp; omega
        go_wp2_with fail
        rw [Exit.noGoto_ret]
        go_ret3
        exact hfin6.out
    · have hR : R = badU := by
        rw [← hI.out.2.2.1, show xs.length - k = 0 by omega]; rfl
      have hfin7 : Hid (UnpP (unpF number xs xs.length 0 []) w (.returned (.tuple #[.string ⟨#[]⟩, .int .i64 0, .int .i64 5])) wr) := hidI (by
        rw [HR.out, hR]; exact ⟨rfl, hI.out.2.1⟩)
      go_wp2_with fail
      rw [Exit.noGoto_ret]
      go_ret3
      exact hfin7.out
set_option maxRecDepth 100000 in
set_option maxHeartbeats 4000000 in
theorem unp_all (number : Int) (A : Option Addr) (c : Nat) (xs : List ByteArray) (w : World) (hC : Kd.C Kd.string w A xs.length xs) (hcc : xs.length ≤ c) (hl : xs.length ≤ 10000000000000) :
    Calls Try.prog 14 #[.int .i64 number, .slice A xs.length c] w (UnpP (unpackF number xs) w) := by
  by_cases h0 : xs.length = 0
  · have hfin : Hid (UnpP (unpackF number xs) w (.returned (.tuple #[.string ⟨#[]⟩, .int .i64 0, .int .i64 4])) w) := hidI (by
      unfold unpackF; rw [if_pos h0]; exact ⟨rfl, Below.refl _ _⟩)
    have e0 : ((xs.length : Int) == 0) = true := by rw [h0]; rfl
    clear h0 hC
    go_enter Try.func14, Try.ntmps14
    go_wp2
    apply wp_scope_straight
    go_wp2
    rw [Exit.noGoto_ret]
    go_ret3
    exact hfin.out
  · by_cases h1 : number < 0
    · have hfin : Hid (UnpP (unpackF number xs) w (.returned (.tuple #[.string ⟨#[]⟩, .int .i64 0, .int .i64 1])) w) := hidI (by
        unfold unpackF; rw [if_neg h0, if_pos (.inl h1)]; exact ⟨rfl, Below.refl _ _⟩)
      have e0 : ((xs.length : Int) == 0) = false := beq_eq_false_iff_ne.mpr (by omega)
      have e1 : decide (number < 0) = true := decide_eq_true h1
      clear hC
      go_enter Try.func14, Try.ntmps14
      go_wp2
      apply wp_scope_straight
      go_wp2
      rw [Exit.noGoto_ret]
      go_ret3
      exact hfin.out
    · by_cases h2 : 4294967295 ≤ number
      · have hfin : Hid (UnpP (unpackF number xs) w (.returned (.tuple #[.string ⟨#[]⟩, .int .i64 0, .int .i64 1])) w) := hidI (by
          unfold unpackF; rw [if_neg h0, if_pos (.inr h2)]; exact ⟨rfl, Below.refl _ _⟩)
        have e0 : ((xs.length : Int) == 0) = false := beq_eq_false_iff_ne.mpr (by omega)
        have e1 : decide (number < 0) = false := decide_eq_false h1
        have e2 : decide (4294967295 ≤ number) = true := decide_eq_true h2
        clear hC
        go_enter Try.func14, Try.ntmps14
        go_wp2
        apply wp_scope_straight
        go_wp2
        rw [Exit.noGoto_ret]
        go_ret3
        exact hfin.out
      · have h := unp_any number A c xs w hC (by omega) (by omega) hcc hl (by omega)
        unfold unpackF
        rw [if_neg h0, if_neg (by omega)]
        exact h
def block_Unpack.f (a0 : Int) (l1 : List ByteArray) : Option (ByteArray × Int × Int) := if l1.length ≤ 10000000000000 then some (unpackF a0 l1) else none
theorem block_Unpack.calls (a0 : Int) (A1 : Option Addr) (c1 : Nat) (l1 : List ByteArray) (r1 : ByteArray) (r2 r3 : Int) (w : World) (hr1 : Kd.C Kd.string w A1 l1.length l1) (hc1 : l1.length ≤ c1) (h : block_Unpack.f a0 l1 = some (r1, r2, r3)) :
    Calls Try.prog 14 #[.int .i64 a0, .slice A1 l1.length c1] w fun e w' => e = .returned (.tuple #[.string r1, .int .i64 r2, .int .i64 r3]) ∧ Below w.heap.size w w' := by
  unfold block_Unpack.f at h
  split at h
  · rename_i hl
    have := Option.some.inj h
    have hh := unp_all a0 A1 c1 l1 w hr1 hc1 hl
    rw [this] at hh
    exact hh.mono fun e w' h => h
  · cases h
end Go.Proofs.Ytckfkbmefdmedaa
namespace Go.Proofs.Ytckfkbmefdmedaa
open Go.RowKit Go.Proofs.Kq Go.Proofs.Ytckfkbmefdmedaa.Q Go.Proofs.YtckfkbmefdmedaaW.PrintWords Go
set_option linter.unusedVariables false
set_option linter.unusedSimpArgs false
theorem bl_append (a b : ByteArray) : bl (a ++ b) = bl a ++ bl b := by simp [bl]
def tagL (z : Int) : List UInt8 := bl (strOfNums (lowI 4 z))
theorem tagL_len (z : Int) : (tagL z).length = 4 := rfl
theorem one_bl (n i c : Int) (d : ByteArray) : ∃ C : List UInt8, C.length = 4 ∧ bl (oneF n i c d) = tagL ((n + 1) % 4294967296) ++ (bl (strOfNums [i % 256, c % 256, (d.size : Int) % 256]) ++ (bl d ++ (Lib.repeatL [0] (49 - d.size) ++ (C ++ tagL ((n + 1) % 4294967296))))) := by
  refine ⟨tagL (crcF (headF n i c d)), rfl, ?_⟩
  unfold oneF
  generalize crcF (headF n i c d) = z
  unfold headF tagL
  simp only [bl_append, List.append_assoc]
  rfl
theorem lenB_bl (s : ByteArray) : lenB s = ((bl s).getD 6 0).toNat := by simp [lenB, bl, Array.getD_eq_getD_getElem?]
theorem cntB_bl (s : ByteArray) : cntB s = ((bl s).getD 5 0).toNat := by simp [cntB, bl, Array.getD_eq_getD_getElem?]
theorem one_len (n i c : Int) (d : ByteArray) (hd : d.size ≤ 49) : lenB (oneF n i c d) = d.size := by
  obtain ⟨C, hC, e⟩ := one_bl n i c d
  rw [lenB_bl, e]
  show (UInt8.ofNat ((d.size : Int) % 256).toNat).toNat = _
  rw [UInt8.toNat_ofNat']; omega
theorem one_cnt (n i : Int) (c : Nat) (d : ByteArray) (hc : c < 256) : cntB (oneF n i c d) = c := by
  obtain ⟨C, hC, e⟩ := one_bl n i c d
  rw [cntB_bl, e]
  show (UInt8.ofNat ((c : Int) % 256).toNat).toNat = _
  rw [UInt8.toNat_ofNat']; omega
theorem one_size (n i c : Int) (d : ByteArray) (hd : d.size ≤ 49) : (oneF n i c d).size = 64 := by
  obtain ⟨C, hC, e⟩ := one_bl n i c d
  rw [ba_size, e]
  simp only [List.length_append, tagL_len, hC, Lib.repeatL_length, ← ba_size, sn_size]
  simp; omega
theorem one_dat (n i c : Int) (d : ByteArray) (hd : d.size ≤ 49) : datB (oneF n i c d) = d := by
  obtain ⟨C, hC, e⟩ := one_bl n i c d
  apply ba_ext
  unfold datB
  rw [bl_extract, one_len n i c d hd, e]
  show List.take _ (bl d ++ _) = _
  rw [show 7 + d.size - 7 = (bl d).length by rw [← ba_size]; omega, List.take_left]
theorem one_head (n i c : Int) (d : ByteArray) : (bl (oneF n i c d)).take 4 = tagL ((n + 1) % 4294967296) := by
  obtain ⟨C, hC, e⟩ := one_bl n i c d
  rw [e]; rfl
theorem one_tail (n i c : Int) (d : ByteArray) (hd : d.size ≤ 49) : (bl (oneF n i c d)).drop 60 = tagL ((n + 1) % 4294967296) := by
  obtain ⟨C, hC, e⟩ := one_bl n i c d
  rw [e]
  rw [← List.append_assoc, ← List.append_assoc, ← List.append_assoc, ← List.append_assoc]
  rw [show 60 = ((((tagL ((n + 1) % 4294967296) ++ bl (strOfNums [i % 256, c % 256, (d.size : Int) % 256])) ++ bl d) ++ Lib.repeatL [0] (49 - d.size)) ++ C).length by
    simp only [List.length_append, tagL_len, hC, Lib.repeatL_length, ← ba_size, sn_size]; simp; omega, List.drop_left]
theorem tagL_inj (a b : Int) (ha : 0 ≤ a) (ha2 : a < 4294967296) (hb : 0 ≤ b) (hb2 : b < 4294967296) (h : tagL a = tagL b) : a = b := by
  have e : strOfNums (lowI 4 a) = strOfNums (lowI 4 b) := ba_ext h
  have e2 := congrArg bn e
  rw [bn_sn (lowI_mem 4 a), bn_sn (lowI_mem 4 b)] at e2
  have := congrArg vI e2
  rw [vI_low 4 a ha (by omega), vI_low 4 b hb (by omega)] at this
  exact this
end Go.Proofs.Ytckfkbmefdmedaa
