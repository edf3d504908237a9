/- What the statement leans on, part 1: functions of the program and of the reference as Lean functions, their contracts, and plain laws. -/
import Derived.WalkKit
import Derived.ProofKit
import Derived.OpenShut
import Derived.ShutString
import Derived.ChangeOld
import Derived.Below
import Derived.SizedLaws
import Derived.Deep.Draws
import Derived.Deep.AppendLies
import Derived.Maps.AppendAt
import Derived.OwnWalk
import Derived.Laws.BytesArg
import Derived.Laws.MakeOwn
import Derived.Laws.OwnMore
import Derived.Deep.OwnRows
import Derived.Tactics
import Derived.Lib.ConvBytes
import Derived.Laws.Slices
import Derived.KernelRfl
import Derived.RowKit3
import Derived.Deep.LoopGhost
import Derived.Deep.QuietTactic
import Derived.BigQuiet
import Derived.WideLaws
import Derived.Deep.DeepCutAuto
import Derived.Deep.CutBlock
import Derived.Deep.RegionHeld3
import Derived.Laws.Rows
import Derived.Lib.AppendStr
import Derived.ArgAppend
import Derived.Laws.IdiomCopy
import Derived.RowKit
import Derived.OrdersHeld
import Derived.Laws.BitsLemmas
import Derived.Laws.StructEq
import Derived.Test.YtckfkbmefdmedaaProg
import Derived.Shelf.Strings.Builder1
import Derived.Shelf.Strings.Builder2
import Derived.Shelf.Small.Bits
import Derived.Shelf.Strings.BuilderF
import Derived.Shelf.Strings.BuilderK
import Derived.Shelf.Strings.Builder2Cap
import Derived.Shelf.Strconv.Itoa0
import Derived.Shelf.Strings.Prefix
import Derived.Shelf.Bits.Mul64
import Derived.Shelf.Strings.Repeat
import Derived.Shelf.Strings.BuilderCap
import Derived.Shelf.Slices.Turned
import Derived.Shelf.Slices.Equal
import Derived.Ground.Names2Prog
import Derived.Shelf.Slices.Clone
import Derived.Shelf.Slices.Empties2
import Derived.Ground.SlgnProg
import Derived.Shelf.SlicesE.Clone
import Derived.Test.YtckfkbmefdmedaaRows
import Derived.WalkSpells
import Derived.WalkLawsBesides
import Derived.Handy
import Derived.RegionTactic
import Derived.ChangeAlike
import Derived.Deep.RegionLaw
import Derived.Shelf.SlGeneric
import Derived.Shelf.Spec.SlicesGrow
import Derived.Ground.Names8Prog
import Derived.Laws.BitsAllLaws
import Derived.Lib.Strings
import Derived.RangeFuncNested
import Derived.RangeFuncBound
import Derived.RangeFuncCalls
import Derived.RangeFuncLeaves
import Derived.Shelf.Abstract
import Derived.Shelf.RegionOpen
import Derived.OwnWalkIn
import Derived.TacticsInMore
import Derived.LoopNIn
import Derived.LoopIn
import Derived.Laws.CopyOwn
namespace Go.Proofs.Rk
open Go.ChangeShapes Go.WideShapes Go.ChangeAt Go.RowKit
set_option linter.unusedSimpArgs false
section
variable {H : Type} {enc : TypeId × Value → H} {P : Program} {w : World} {base : Nat} {spare : Nat → Bool} {held : Bool}
structure Kn (P : Program) (t : TypeId) (A : Type) where
  cells : A → List Value
  ok : A → Prop
  rd : ∀ {H : Type} {enc : TypeId × Value → H} {w : World} {base : Nat} {spare : Nat → Bool} {held : Bool} {fuel : Nat} {cs : List Value} {x : DataW H × List MemPlace},
    DataW.trod enc P w base spare held fuel t cs = some x → ∃ a, cs = cells a ∧ ok a
def Kn.int {P : Program} {t : TypeId} {k : IntKind} (h : P.underlying t = some (.int k)) : Kn P t Int where
  cells n := [.int k n]
  ok n := (Lit.int k n).wf = true
  rd h' := by obtain ⟨n, rfl, _, hw⟩ := DataW.trod_int h h'; exact ⟨n, rfl, hw⟩
def Kn.bool {P : Program} {t : TypeId} (h : P.underlying t = some .bool) : Kn P t Bool where
  cells b := [.bool b]
  ok _ := True
  rd h' := by obtain ⟨b, rfl, _⟩ := DataW.trod_bool h h'; exact ⟨b, rfl, trivial⟩
def Kn.str {P : Program} {t : TypeId} (h : P.underlying t = some .string) : Kn P t ByteArray where
  cells s := [.string s]
  ok s := s.size ≤ maxLen
  rd h' := by obtain ⟨s, rfl, _, hs⟩ := DataW.trod_string h h'; exact ⟨s, rfl, hs⟩
def RdSl (w : World) {A : Type} (cells : A → List Value) (ok : A → Prop) (C : Nat) (ad : Option Addr) (xs : List A) (cap : Nat) : Prop :=
  (ad = none ∧ xs = [] ∧ cap = 0) ∨ ∃ p : Addr, ad = some p ∧ xs.length ≤ cap ∧ cap ≤ maxLen ∧ (∀ a ∈ xs, ok a) ∧ (0 < xs.length → 0 < C → p.spot = none) ∧
    ∀ (i : Nat) (h : i < xs.length) (j : Nat) (v : Value), (cells xs[i])[j]? = some v → w.cell? ⟨p.block, p.off + (i * C + j), none⟩ = some v
theorem list_of {A : Type} {Q : Nat → A → Prop} : ∀ n, (∀ i, i < n → ∃ a, Q i a) → ∃ xs : List A, xs.length = n ∧ ∀ i (h : i < xs.length), Q i xs[i]
  | 0, _ => ⟨[], rfl, fun i h => absurd h (by simp)⟩
  | n + 1, h => by
    obtain ⟨xs, hl, hx⟩ := list_of n (fun i hi => h i (by omega))
    obtain ⟨a, ha⟩ := h n (by omega)
    refine ⟨xs ++ [a], by simp [hl], fun i hi => ?_⟩
    rw [List.getElem_append]
    split
    · exact hx i _
    · have : i = n := by simp at hi; omega
      subst this
      simpa using ha
theorem cell_spot {w : World} {p : Addr} {k : Nat} {v : Value} (h : w.cell? (p.add k) = some v) : w.cell? ⟨p.block, p.off + k, none⟩ = some v := by
  unfold Addr.add at h
  split at h
  · rename_i hk
    subst hk
    unfold World.cell? at h ⊢
    split at h
    · rename_i c _ _ hb
      split at h
      · cases h
      · simp only [hb]; simpa using h
    · cases h
  · exact h
theorem spot_none {w : World} {p : Addr} {v : Value} (h : w.cell? p = some v) : p.spot = none := by
  unfold World.cell? at h
  split at h
  · split at h
    · cases h
    · rename_i hs; cases hp : p.spot with
      | none => rfl
      | some x => simp [hp] at hs
  · cases h
theorem add_add (a : Addr) (i j : Nat) : (a.add i).add j = a.add (i + j) := by
  unfold Addr.add
  by_cases hi : i = 0
  · subst hi; simp
  · by_cases hj : j = 0
    · subst hj; simp [hi]
    · simp [hi, hj, Nat.add_assoc]
theorem Kn.slice {t e : TypeId} {A : Type} (K : Kn P e A) {C : Nat} (hC : P.cellsOf e = C) (ht : P.underlying t = some (.slice e)) {ad : Option Addr} {len cap : Nat} {d : DataW H} {ps : List MemPlace}
    (h : DataW.Trod enc P w base spare held t (.slice ad len cap) d ps) : ∃ xs : List A, len = xs.length ∧ RdSl w K.cells K.ok C ad xs cap := by
  obtain ⟨fuel, hf⟩ := h
  rcases DataW.trod_slice ht hf with ⟨hcs, _⟩ | ⟨a, l, c, elems, rest, n, _, hcs, _, hb, hlc, hcm, hel, hi, _⟩
  · simp [Value.cells] at hcs
    obtain ⟨rfl, rfl, rfl⟩ := hcs
    exact ⟨[], rfl, .inl ⟨rfl, rfl, rfl⟩⟩
  · simp [Value.cells] at hcs
    obtain ⟨rfl, rfl, rfl⟩ := hcs
    obtain ⟨xs, hxl, hxs⟩ := list_of (Q := fun i (x : A) => K.ok x ∧ ∀ (j : Nat) (v : Value), (K.cells x)[j]? = some v → w.cell? ⟨a.block, a.off + (i * C + j), none⟩ = some v) len (fun i hlt => by
      have h1 := hi i hlt
      rw [List.getElem?_eq_getElem (by omega)] at h1
      obtain ⟨cs, hcs, htr⟩ := Option.bind_eq_some_iff.1 h1
      obtain ⟨x, rfl, hok⟩ := K.rd htr
      obtain ⟨_, hl, hat⟩ := World.cells?_some hcs
      refine ⟨x, hok, fun j v hj => ?_⟩
      have hjl : j < P.cellsOf e := by
        rw [← hl]; exact (List.getElem?_eq_some_iff.1 hj).1
      have := hat j hjl
      rw [hj, hC] at this
      rw [add_add] at this
      exact cell_spot this)
    refine ⟨xs, hxl.symm, .inr ⟨a, rfl, by omega, hcm, fun x hx => ?_, fun hn hC0 => ?_, fun i hlt j v hj => (hxs i hlt).2 j v hj⟩⟩
    rotate_left
    · have h1 := hi 0 (by omega)
      rw [List.getElem?_eq_getElem (by omega)] at h1
      obtain ⟨cs, hcs, _⟩ := Option.bind_eq_some_iff.1 h1
      obtain ⟨_, hl, hat⟩ := World.cells?_some hcs
      have h2 := hat 0 (by omega)
      rw [List.getElem?_eq_getElem (by omega)] at h2
      have := spot_none h2
      simpa [Addr.add] using this
    obtain ⟨i, hlt, rfl⟩ := List.getElem_of_mem hx
    exact (hxs i hlt).1
end
end Go.Proofs.Rk
set_option linter.unusedVariables false
set_option linter.unusedSimpArgs false
namespace Go.Proofs.YtckfkbmefdmedaaW.PrintWords
open Go.RowKit
structure Aside0 (p : Prop) : Prop where mk :: (out : p)
structure Drawn0 (w w' : World) : Prop where mk :: (out : ∃ n, w' = w.drewN n)
theorem Drawn0.refl (w : World) : Drawn0 w w := ⟨⟨0, rfl⟩⟩
theorem Drawn0.step {w w' : World} (h : Drawn0 w w') (n : Nat) : Drawn0 w (w'.drewN n) := by
  obtain ⟨m, rfl⟩ := h
  exact ⟨⟨m + n, World.drewN_drewN ..⟩⟩
theorem Drawn0.grown {w w' : World} (h : Drawn0 w w') : Grown w w' := by
  obtain ⟨n, rfl⟩ := h
  induction n with
  | zero => exact Grown.refl _
  | succ n ih => rw [← World.drew_drewN]; exact Grown.drew ih
theorem Drawn0.below {w w' : World} (h : Drawn0 w w') : Below w.heap.size w w' := by
  obtain ⟨n, rfl⟩ := h
  induction n with
  | zero => exact Below.refl _ _
  | succ n ih => rw [← World.drew_drewN]; exact ih.drew
def rd (xs : List Int) (i : Int) : Int := xs.getD i.toNat 0
theorem below_alloc {w W : World} (h : Below w.heap.size w W) (o : Obj) : Below w.heap.size w (W.alloc o) := h.alloc h.size o
theorem pw_below_drewN {B : Nat} {w W : World} (h : Below B w W) (n : Nat) : Below B w (W.drewN n) := ⟨h.os, h.tape, h.output, h.size, h.block⟩
theorem below_then {B : Nat} {w w1 w2 : World} (h : Below B w w1) (hB : B ≤ w1.heap.size) (k : Below w1.heap.size w1 w2) : Below B w w2 :=
  h.trans ⟨k.os, k.tape, k.output, k.size, fun i hi => k.block i (Nat.lt_of_lt_of_le hi hB)⟩
theorem grown_of_below {w w1 : World} (h : Below w.heap.size w w1) (row : Option Nat) : w.grownBy w1 row := ⟨h.os, h.tape, h.output, h.size, fun i hi _ => h.block i hi⟩
theorem pw_cell_below {w w1 : World} (h : Below w.heap.size w w1) {a : Addr} {v : Value} (hc : w.cell? a = some v) : w1.cell? a = some v := (h.cell (World.block_lt_of_cell? w a hc)).trans hc
def ReadsInt (w : World) (k : IntKind) (A : Option Addr) (n : Nat) (xs : List Int) : Prop :=
  xs.length = n ∧ n ≤ 9223372036854775807 ∧ (0 < n → ∃ ad, A = some ad ∧ ∀ j, j < n → w.cell? (ad.add j) = some (.int k (xs.getD j 0)))
theorem ReadsInt.at_ {w : World} {k : IntKind} {A : Option Addr} {n : Nat} {xs : List Int} (h : ReadsInt w k A n xs) (i : Int) (h0 : 0 ≤ i) (h1 : i < n) : ∃ ad, A = some ad ∧ w.cell? (ad.add i.toNat) = some (.int k (rd xs i)) := by
  obtain ⟨ad, e, hc⟩ := h.2.2 (by omega)
  exact ⟨ad, e, hc _ (by omega)⟩
theorem ReadsInt.below {w w1 : World} {k : IntKind} {A : Option Addr} {n : Nat} {xs : List Int} (h : ReadsInt w k A n xs) (hb : Below w.heap.size w w1) : ReadsInt w1 k A n xs :=
  ⟨h.1, h.2.1, fun hn => by
    obtain ⟨ad, e, hc⟩ := h.2.2 hn
    exact ⟨ad, e, fun j hj => pw_cell_below hb (hc j hj)⟩⟩
theorem own_base {w : World} {base : Nat} {e : TypeId} {size n : Nat} {v : Value} {xs : List Value} (h : w.ownsRow base e size v n xs) (k : Nat) (hk : v.ownBlock = some k) : base ≤ k := by
  rcases h.2 with ⟨rfl, _⟩ | ⟨g, cap, cur, rfl, hb, _⟩
  · simp [Value.ownBlock] at hk
  · have : g = k := by simpa [Value.ownBlock] using hk
    omega
theorem own_lt {w : World} {base : Nat} {e : TypeId} {size n : Nat} {v : Value} {xs : List Value} (h : w.ownsRow base e size v n xs) (k : Nat) (hk : v.ownBlock = some k) : k < w.heap.size := by
  rcases h.2 with ⟨rfl, _⟩ | ⟨g, cap, cur, rfl, hb, hh, _⟩
  · simp [Value.ownBlock] at hk
  · have : g = k := by simpa [Value.ownBlock] using hk
    subst this
    exact (Array.getElem?_eq_some_iff.1 hh).1
theorem pw_own_below {w w1 : World} {base : Nat} {e : TypeId} {size n : Nat} {v : Value} {xs : List Value} (h : w.ownsRow base e size v n xs) (hb : Below w.heap.size w w1) : w1.ownsRow base e size v n xs :=
  h.kept (grown_of_below hb none) (by cases v.ownBlock <;> simp)
theorem own_slice {w : World} {base n : Nat} {e : TypeId} {size : Nat} {v : Value} {xs : List Value} (h : w.ownsRow base e size v n xs) : ∃ A c, v = .slice A n c := by
  rcases h.2 with ⟨rfl, rfl⟩ | ⟨g, cap, cur, rfl, _⟩
  · exact ⟨none, 0, rfl⟩
  · exact ⟨_, cap, rfl⟩
section
variable {P : Program} {ops : Array Oper} {rest : List Oper} {o : Oper} {a : Act} {Q : Exit → Act → World → Prop}
end
section
variable {P : Program}
end
section
variable {P : Program} {ops : Array Oper} {rest : List Oper} {o : Oper} {a : Act} {Q : Exit → Act → World → Prop}
end
def bytesOf (s : ByteArray) : List Int := s.data.toList.map fun b => (b.toNat : Int)
theorem ReadsInt.take_ {w : World} {k : IntKind} {A : Option Addr} {n : Nat} {xs : List Int} (h : ReadsInt w k A n xs) (i : Nat) (hi : i ≤ n) : ReadsInt w k A i (xs.take i) := by
  refine ⟨by rw [List.length_take, h.1]; omega, by have := h.2.1; omega, fun hp => ?_⟩
  obtain ⟨ad, e, hc⟩ := h.2.2 (by omega)
  refine ⟨ad, e, fun j hj => ?_⟩
  rw [hc j (by omega)]
  simp [List.getD_eq_getElem?_getD, hj]
def LeO {α : Type} (a b : Option α) : Prop := ∀ r, a = some r → b = some r
theorem LeO.refl {α : Type} (a : Option α) : LeO a a := fun _ h => h
theorem LeO.none {α : Type} (b : Option α) : LeO Option.none b := fun _ h => by cases h
theorem LeO.trans {α : Type} {a b c : Option α} (h : LeO a b) (k : LeO b c) : LeO a c := fun r hr => k r (h r hr)
theorem LeO.map {α β : Type} {a a' : Option α} (f : α → β) (h : LeO a a') : LeO (a.map f) (a'.map f) := by
  intro r hr
  obtain ⟨x, hx, hf⟩ := Option.map_eq_some_iff.1 hr
  exact Option.map_eq_some_iff.2 ⟨x, h x hx, hf⟩
theorem more_rounds {α : Type} {g : Nat → Option α} (h : ∀ k, LeO (g k) (g (k + 1))) (k : Nat) : ∀ j, LeO (g k) (g (k + j))
  | 0 => LeO.refl _
  | j + 1 => (more_rounds h k j).trans (h (k + j))
theorem at_rounds {α : Type} {g : Nat → Option α} (h : ∀ k, LeO (g k) (g (k + 1))) {k k' : Nat} (hk : k ≤ k') {r : α} (hr : g k = some r) : g k' = some r := by
  have := more_rounds h k (k' - k) r hr
  rwa [Nat.add_sub_cancel' hk] at this
def Reps {α : Type} (R : α → List Value → Prop) (size : Nat) (ps : List α) (cs : List Value) : Prop :=
  cs.length = ps.length * size ∧ ∀ j p, ps[j]? = some p → R p ((cs.drop (j * size)).take size)
theorem Reps.none {α : Type} (R : α → List Value → Prop) (size : Nat) : Reps R size [] [] := ⟨by simp, fun j p h => by simp at h⟩
theorem Reps.snoc {α : Type} {R : α → List Value → Prop} {size : Nat} {ps : List α} {cs c : List Value} {p : α} (h : Reps R size ps cs) (hp : R p c) (hc : c.length = size) : Reps R size (ps ++ [p]) (cs ++ c) := by
  refine ⟨by rw [List.length_append, h.1, hc, List.length_append, List.length_singleton, Nat.add_mul, Nat.one_mul], fun j q hq => ?_⟩
  rcases Nat.lt_or_ge j ps.length with hj | hj
  · rw [List.getElem?_append_left hj] at hq
    have h1 : j * size + size ≤ cs.length := by rw [h.1, ← Nat.succ_mul]; exact Nat.mul_le_mul_right _ hj
    have h2 := h.2 j q hq
    rw [List.drop_append_of_le_length (by omega), List.take_append_of_le_length (by rw [List.length_drop]; omega)]
    exact h2
  · have hj' : j = ps.length := by
      have := (List.getElem?_eq_some_iff.1 hq).1
      rw [List.length_append, List.length_singleton] at this
      omega
    subst hj'
    have hq' : p = q := by simpa using hq
    subst hq'
    rw [← h.1, List.drop_left, ← hc, List.take_length]
    exact hp
theorem Reps.imp_ {α : Type} {R R' : α → List Value → Prop} {size : Nat} {ps : List α} {cs : List Value} (h : Reps R size ps cs) (hR : ∀ p c, R p c → R' p c) : Reps R' size ps cs := ⟨h.1, fun j p hj => hR _ _ (h.2 j p hj)⟩
def ReadsRow {α : Type} (R : α → List Value → Prop) (size : Nat) (w : World) (A : Option Addr) (n : Nat) (ps : List α) : Prop :=
  ps.length = n ∧ n ≤ 9223372036854775807 ∧ (0 < n → ∃ ad, A = some ad ∧ ∀ j p, ps[j]? = some p → ∃ c, c.length = size ∧ R p c ∧ ∀ i u, c[i]? = some u → w.cell? (ad.add (j * size + i)) = some u)
theorem ReadsRow.get_ {α : Type} {R : α → List Value → Prop} {size : Nat} {w : World} {A : Option Addr} {n : Nat} {ps : List α} (h : ReadsRow R size w A n ps) (d : α) (i : Int) (h0 : 0 ≤ i) (h1 : i < n) :
    ∃ ad c, A = some ad ∧ c.length = size ∧ R (ps.getD i.toNat d) c ∧ ∀ j u, c[j]? = some u → w.cell? (ad.add (i.toNat * size + j)) = some u := by
  obtain ⟨ad, e, hc⟩ := h.2.2 (by omega)
  have hl : i.toNat < ps.length := by have := h.1; omega
  obtain ⟨c, hs, hr, hcell⟩ := hc i.toNat _ (List.getElem?_eq_getElem hl)
  refine ⟨ad, c, e, hs, ?_, hcell⟩
  rw [List.getD_eq_getElem?_getD, List.getElem?_eq_getElem hl]
  exact hr
theorem ReadsRow.imp_ {α : Type} {R R' : α → List Value → Prop} {size : Nat} {w w1 : World} {A : Option Addr} {n : Nat} {ps : List α} (h : ReadsRow R size w A n ps) (hb : Below w.heap.size w w1) (hR : ∀ p c, R p c → R' p c) : ReadsRow R' size w1 A n ps :=
  ⟨h.1, h.2.1, fun hn => by
    obtain ⟨ad, e, hc⟩ := h.2.2 hn
    refine ⟨ad, e, fun j p hj => ?_⟩
    obtain ⟨c, hs, hr, hcell⟩ := hc j p hj
    exact ⟨c, hs, hR _ _ hr, fun i u hu => pw_cell_below hb (hcell i u hu)⟩⟩
theorem own_reads_row {α : Type} {R : α → List Value → Prop} {w : World} {base n size : Nat} {e : TypeId} {v : Value} {ps : List α} {cs : List Value} (h : w.ownsRow base e size v n cs) (hR : Reps R size ps cs) (hn : ps.length = n) :
    ∃ A c, v = .slice A n c ∧ ReadsRow R size w A n ps := by
  rcases Nat.eq_zero_or_pos n with h0 | h0
  · rcases h.2 with ⟨rfl, rfl⟩ | ⟨g, cap, cur, rfl, _⟩
    · exact ⟨none, 0, rfl, hn, by omega, fun hp => absurd hp (by omega)⟩
    · exact ⟨_, cap, rfl, hn, by omega, fun hp => absurd hp (by omega)⟩
  · obtain ⟨g, cap, rfl, _, _⟩ := h.form h0
    have hm : n ≤ 9223372036854775807 := by
      rcases h.2 with ⟨_, h1⟩ | ⟨g', cap', cur, he, _, _, h1, h2, _⟩
      · omega
      · simp only [maxLen] at h2
        omega
    refine ⟨_, cap, rfl, hn, hm, fun _ => ⟨_, rfl, fun j p hj => ⟨(cs.drop (j * size)).take size, ?_, hR.2 j p hj, fun i u hu => ?_⟩⟩⟩
    · have hjl := (List.getElem?_eq_some_iff.1 hj).1
      have h1 : j * size + size ≤ cs.length := by rw [hR.1, ← Nat.succ_mul]; exact Nat.mul_le_mul_right _ hjl
      rw [List.length_take, List.length_drop]
      omega
    · refine h.cells (g := g) rfl _ u ?_
      rw [List.getElem?_take] at hu
      split at hu
      · rw [List.getElem?_drop] at hu
        exact hu
      · cases hu
theorem add_field (ad : Addr) (m j : Nat) (hj : 0 < j) : ad.add (m + j) = ⟨(ad.add m).block, (ad.add m).off + j, none⟩ := by
  unfold Addr.add
  by_cases hm : m = 0
  · subst hm
    simp [Nat.ne_of_gt hj]
  · simp [hm, Nat.add_assoc]
section
variable {P : Program} {ops : Array Oper} {rest : List Oper} {o : Oper} {a : Act} {Q : Exit → Act → World → Prop}
theorem print_append_cells {w0 W : World} (base : Nat) (hgd : o.guard = none) (s x : Operand) (t e : TypeId) (z : Value) (size bytes : Nat)
    (ho : o.op = .call { callee := .builtin .append, args := #[s, x], argTypes := #[t, t] })
    (ht : P.underlying t = some (.slice e)) (hinfo : (P.info? e).map (fun i => (i.zero, i.size, i.bytes)) = some (some z, size, bytes)) (hz : z.cells.size = size) (hs0 : 0 < size) (hb0 : 0 < bytes)
    (v : Value) (n : Nat) (xs ys : List Value) (hs : a.eval s = v) (hx : a.eval x = .slice (some ⟨W.heap.size, 0, none⟩) 1 1) (hys : ys.length = size) (h1 : ∀ u ∈ ys, u.oneCell' = true)
    (HO : W.ownsRow base e size v n xs) (HB : Below base w0 W) (hbase : base ≤ W.heap.size) (hl : (n + 1) * bytes ≤ 140737488355328)
    (h : ∀ v1 w1, w1.ownsRow base e size v1 (n + 1) (xs ++ ys) → Below base w0 w1 → W.grownBy w1 v.ownBlock → (v1.ownBlock = v.ownBlock ∨ ∃ b, v1.ownBlock = some b ∧ W.heap.size ≤ b) → wpList P ops Q rest (a.put o.dst v1) w1) :
    wpList P ops Q (o :: rest) a (W.alloc (.cells ys.toArray e)) := by
  obtain ⟨i0, hi, hzz⟩ := Option.map_eq_some_iff.1 hinfo
  simp only [Prod.mk.injEq] at hzz
  obtain ⟨hz0, hz1, hz2⟩ := hzz
  have hlen : n + 1 ≤ 140737488355328 := Nat.le_trans (Nat.le_mul_of_pos_right _ hb0) hl
  refine wpList_append_own_at (W.alloc (.cells ys.toArray e)) hgd s x t ho base e i0 z size bytes ht hi hz0 hz1 hz2 hz hs0 v n xs hs (HO.alloc _) ⟨W.heap.size, 0, none⟩ 1 1 ys hx (by rw [hys]; simp)
    (by simpa using World.news_of_block (cs := ys.toArray) (t := e) (fr := (0, 0)) (heap_alloc_new W (.cells ys.toArray e))) h1 (by simp only [maxLen]; omega) hl (by simp; omega) ?_
  intro v1 w1 hown hg _ hat
  refine h v1 w1 hown ((HB.alloc hbase _).grown hg (by simp; omega) (own_base HO)) (World.grownBy.trans (World.grownBy_alloc W _ _) hg) ?_
  rcases hat with hat | hat
  · exact .inl hat
  · exact .inr ⟨_, hat, by simp⟩
end
theorem own_ne {w : World} {base : Nat} {e t : TypeId} {size n g : Nat} {v : Value} {xs : List Value} {cs : Array Value} (h : w.ownsRow base e size v n xs) (hg : w.heap[g]? = some (.cells cs t (0, 0))) (hne : e ≠ t) : some g ≠ v.ownBlock := by
  rcases h.2 with ⟨rfl, _⟩ | ⟨g', cap, cur, rfl, _, hh, _⟩
  · simp [Value.ownBlock]
  · intro he
    have : g = g' := by simpa [Value.ownBlock] using he
    subst this
    rw [hg] at hh
    injection hh with hh
    injection hh with _ ht
    exact hne ht.symm
theorem blk_lt {w : World} {g : Nat} {o : Obj} (h : w.heap[g]? = some o) : g < w.heap.size := (Array.getElem?_eq_some_iff.1 h).1
theorem blk_cell {w : World} {g : Nat} {t : TypeId} {cs : Array Value} (h : w.heap[g]? = some (.cells cs t (0, 0))) (i : Nat) : w.cell? ⟨g, i, none⟩ = cs[i]? := cell_of_row w g i cs t (0, 0) h
theorem blk_frozen {w : World} {g : Nat} {t : TypeId} {cs : Array Value} (h : w.heap[g]? = some (.cells cs t (0, 0))) (i : Nat) : w.frozen? ⟨g, i, none⟩ = false := by simp [World.frozen?, h]
def KeepBut (w w' : World) (g : Nat) (row : Option Nat) : Prop := w.heap.size ≤ w'.heap.size ∧ ∀ i, i < w.heap.size → i ≠ g → some i ≠ row → w'.heap[i]? = w.heap[i]?
theorem KeepBut.refl (w : World) (g : Nat) (row : Option Nat) : KeepBut w w g row := ⟨Nat.le_refl _, fun _ _ _ _ => rfl⟩
theorem KeepBut.of_below {w w1 : World} (h : Below w.heap.size w w1) (g : Nat) (row : Option Nat) : KeepBut w w1 g row := ⟨h.size, fun i hi _ _ => h.block i hi⟩
theorem KeepBut.trans {w w1 w2 : World} {g : Nat} {row row1 : Option Nat} (h : KeepBut w w1 g row) (k : KeepBut w1 w2 g row1) (hr : row1 = row ∨ ∃ b, row1 = some b ∧ w.heap.size ≤ b) : KeepBut w w2 g row :=
  ⟨Nat.le_trans h.1 k.1, fun i hi hg hn => by
    refine (k.2 i (Nat.lt_of_lt_of_le hi h.1) hg ?_).trans (h.2 i hi hg hn)
    rcases hr with rfl | ⟨b, rfl, hb⟩
    · exact hn
    · intro e
      injection e with e
      omega⟩
theorem KeepBut.blk {w w1 : World} {g g' : Nat} {row : Option Nat} {o : Obj} (h : KeepBut w w1 g row) (hb : w.heap[g']? = some o) (hg : g' ≠ g) (hr : some g' ≠ row) : w1.heap[g']? = some o := (h.2 g' (blk_lt hb) hg hr).trans hb
theorem KeepBut.own {w w1 : World} {g : Nat} {row : Option Nat} {base : Nat} {e : TypeId} {size n : Nat} {v : Value} {xs : List Value} (h : KeepBut w w1 g row) (ho : w.ownsRow base e size v n xs) (hg : v.ownBlock ≠ some g) (hr : v.ownBlock = none ∨ v.ownBlock ≠ row) : w1.ownsRow base e size v n xs := by
  obtain ⟨h1, h2⟩ := ho
  refine ⟨h1, ?_⟩
  rcases h2 with h2 | ⟨b, cap, cur, rfl, hb, hh, r⟩
  · exact .inl h2
  · refine .inr ⟨b, cap, cur, rfl, hb, h.blk hh ?_ ?_, r⟩
    · intro e
      exact hg (by rw [← e]; rfl)
    · rcases hr with hr | hr
      · simp [Value.ownBlock] at hr
      · exact hr
def Ev {α : Type} (g : Nat → Option α) (r : α) : Prop := ∃ K, ∀ k, K ≤ k → g k = some r
theorem Ev.of {α : Type} {g : Nat → Option α} {r : α} (hg : ∀ k, LeO (g k) (g (k + 1))) {k : Nat} (h : g k = some r) : Ev g r := ⟨k, fun _ hk => at_rounds hg hk h⟩
theorem Ev.step {α : Type} {g f : Nat → Option α} {r : α} (h : ∀ k, g (k + 1) = f k) (k : Ev f r) : Ev g r := by
  obtain ⟨K, k⟩ := k
  refine ⟨K + 1, fun n hn => ?_⟩
  obtain ⟨m, rfl⟩ : ∃ m, n = m + 1 := ⟨n - 1, by omega⟩
  rw [h]
  exact k m (by omega)
theorem Ev.congr {α : Type} {g f : Nat → Option α} {r : α} (h : ∀ k, g k = f k) (k : Ev f r) : Ev g r := by
  obtain ⟨K, k⟩ := k
  exact ⟨K, fun n hn => (h n).trans (k n hn)⟩
section
variable {P : Program} {ops : Array Oper} {o : Oper} {a : Act} {Q : Exit → Act → World → Prop} {K : Act → World → Prop}
theorem step_append_cells {w0 W : World} (base : Nat) (hw : Region.wanted o (yielded ops a.tmps) = true) (s x : Operand) (t e : TypeId) (z : Value) (size bytes : Nat)
    (ho : o.op = .call { callee := .builtin .append, args := #[s, x], argTypes := #[t, t] })
    (ht : P.underlying t = some (.slice e)) (hinfo : (P.info? e).map (fun i => (i.zero, i.size, i.bytes)) = some (some z, size, bytes)) (hz : z.cells.size = size) (hs0 : 0 < size) (hb0 : 0 < bytes)
    (v : Value) (n : Nat) (xs ys : List Value) (hs : a.eval s = v) (hx : a.eval x = .slice (some ⟨W.heap.size, 0, none⟩) 1 1) (hys : ys.length = size) (h1 : ∀ u ∈ ys, u.oneCell' = true)
    (HO : W.ownsRow base e size v n xs) (HB : Below base w0 W) (hbase : base ≤ W.heap.size) (hl : (n + 1) * bytes ≤ 140737488355328)
    (h : ∀ v1 w1, w1.ownsRow base e size v1 (n + 1) (xs ++ ys) → Below base w0 w1 → W.grownBy w1 v.ownBlock → (v1.ownBlock = v.ownBlock ∨ ∃ b, v1.ownBlock = some b ∧ W.heap.size ≤ b) → K (a.put o.dst v1) w1) :
    if Region.wanted o (yielded ops a.tmps) = true then Oper.wp P o a (W.alloc (.cells ys.toArray e)) K Q else K (a.put o.dst undef) (W.alloc (.cells ys.toArray e)) := by
  obtain ⟨i0, hi, hzz⟩ := Option.map_eq_some_iff.1 hinfo
  simp only [Prod.mk.injEq] at hzz
  obtain ⟨hz0, hz1, hz2⟩ := hzz
  have hlen : n + 1 ≤ 140737488355328 := Nat.le_trans (Nat.le_mul_of_pos_right _ hb0) hl
  rw [if_pos hw]
  obtain ⟨v1, w1, hr, hown, hg, _, hat⟩ := run_append_own_at (P := P) (W.alloc (.cells ys.toArray e)) base t o.type e i0 z size bytes ht hi hz0 hz1 hz2 hz hs0 v n xs (HO.alloc _) ⟨W.heap.size, 0, none⟩ 1 1 ys (by rw [hys]; simp)
    (by simpa using World.news_of_block (cs := ys.toArray) (t := e) (fr := (0, 0)) (heap_alloc_new W (.cells ys.toArray e))) h1 (by simp only [maxLen]; omega) hl (by simp; omega)
  unfold Oper.wp execOp
  simp only [ho, resolve, invoke, builtin, Sem.run_bind, Sem.run_pure, Result.andThen_ok, List.map_toArray, List.map_cons, List.map_nil, hs, hx, hr]
  refine h v1 w1 hown ((HB.alloc hbase _).grown hg (by simp; omega) (own_base HO)) (World.grownBy.trans (World.grownBy_alloc W _ _) hg) ?_
  rcases hat with hat | hat
  · exact .inl hat
  · exact .inr ⟨_, hat, by simp⟩
end
theorem own_weaken {w : World} {base base' : Nat} {e : TypeId} {size n : Nat} {v : Value} {xs : List Value} (h : w.ownsRow base e size v n xs) (hb : base' ≤ base) : w.ownsRow base' e size v n xs := by
  obtain ⟨h1, h2⟩ := h
  refine ⟨h1, ?_⟩
  rcases h2 with h2 | ⟨g, cap, cur, rfl, hg, r⟩
  · exact .inl h2
  · exact .inr ⟨g, cap, cur, rfl, Nat.le_trans hb hg, r⟩
section
variable {α : Type} {enc : α → Value} {d : α}
def encs (enc : α → Value) (xs : List α) : List Value := xs.map enc
def rdOf (d : α) (xs : List α) (i : Int) : α := xs.getD i.toNat d
theorem encs_length (xs : List α) : (encs enc xs).length = xs.length := by simp [encs]
def ReadsOf (enc : α → Value) (d : α) (w : World) (A : Option Addr) (n : Nat) (xs : List α) : Prop :=
  xs.length = n ∧ n ≤ 9223372036854775807 ∧ (0 < n → ∃ ad, A = some ad ∧ ∀ j, j < n → w.cell? (ad.add j) = some (enc (xs.getD j d)))
theorem ReadsOf.at_ {w : World} {A : Option Addr} {n : Nat} {xs : List α} (h : ReadsOf enc d w A n xs) (i : Int) (h0 : 0 ≤ i) (h1 : i < n) : ∃ ad, A = some ad ∧ w.cell? (ad.add i.toNat) = some (enc (rdOf d xs i)) := by
  obtain ⟨ad, e, hc⟩ := h.2.2 (by omega)
  exact ⟨ad, e, hc _ (by omega)⟩
theorem ReadsOf.below {w w1 : World} {A : Option Addr} {n : Nat} {xs : List α} (h : ReadsOf enc d w A n xs) (hb : Below w.heap.size w w1) : ReadsOf enc d w1 A n xs :=
  ⟨h.1, h.2.1, fun hn => by
    obtain ⟨ad, e, hc⟩ := h.2.2 hn
    exact ⟨ad, e, fun j hj => pw_cell_below hb (hc j hj)⟩⟩
theorem ReadsOf.take_ {w : World} {A : Option Addr} {n : Nat} {xs : List α} (h : ReadsOf enc d w A n xs) (i : Nat) (hi : i ≤ n) : ReadsOf enc d w A i (xs.take i) := by
  refine ⟨by rw [List.length_take, h.1]; omega, by have := h.2.1; omega, fun hp => ?_⟩
  obtain ⟨ad, e, hc⟩ := h.2.2 (by omega)
  refine ⟨ad, e, fun j hj => ?_⟩
  rw [hc j (by omega)]
  simp [List.getD_eq_getElem?_getD, hj]
theorem own_store_of {W : World} {base g n cap : Nat} {e : TypeId} {xs : List α} (h : W.ownsRow base e 1 (.slice (some ⟨g, 0, none⟩) n cap) n (encs enc xs)) (i : Int) (x : α) :
    (W.setCell ⟨g, i.toNat, none⟩ (enc x)).ownsRow base e 1 (.slice (some ⟨g, 0, none⟩) n cap) n (encs enc (xs.set i.toNat x)) ∧ W.grownBy (W.setCell ⟨g, i.toNat, none⟩ (enc x)) (some g) := by
  have hs := h.stored i.toNat (enc x)
  have he : (encs enc xs).set i.toNat (enc x) = encs enc (xs.set i.toNat x) := by simp [encs, List.map_set]
  rwa [he] at hs
end
section
variable {α : Type} {P : Program} {ops : Array Oper} {rest : List Oper} {o : Oper} {a : Act} {Q : Exit → Act → World → Prop}
end
theorem blk_new (w : World) (o : Obj) : (w.alloc o).heap[w.heap.size]? = some o := heap_alloc_new w o
section
variable {P : Program}
end
theorem own_le {w : World} {base n m c size : Nat} {e : TypeId} {A : Option Addr} {xs : List Value} (h : w.ownsRow base e size (.slice A m c) n xs) : m ≤ c := by
  rcases h.2 with ⟨he, _⟩ | ⟨g, cap, cur, he, _, _, hnc, _⟩
  · injection he with _ h2 h3
    omega
  · injection he with _ h2 h3
    omega
def OwnRow {α : Type} (R : α → List Value → Prop) (e : TypeId) (size : Nat) (w : World) (base : Nat) (v : Value) (ps : List α) : Prop :=
  ∃ inner, w.ownsRow base e size v ps.length inner ∧ Reps R size ps inner
section
variable {α : Type} {R R' : α → List Value → Prop} {e : TypeId} {size : Nat} {w w1 : World} {base : Nat} {v : Value} {ps : List α}
theorem OwnRow.imp_ (h : OwnRow R e size w base v ps) (hR : ∀ p c, R p c → R' p c) : OwnRow R' e size w base v ps := by
  obtain ⟨inner, ho, hr⟩ := h
  exact ⟨inner, ho, hr.imp_ hR⟩
theorem OwnRow.below (h : OwnRow R e size w base v ps) (hb : Below w.heap.size w w1) : OwnRow R e size w1 base v ps := by
  obtain ⟨inner, ho, hr⟩ := h
  exact ⟨inner, pw_own_below ho hb, hr⟩
theorem OwnRow.keep (h : OwnRow R e size w base v ps) {g : Nat} {t : TypeId} {cells : Array Value} (hb : w.heap[g]? = some (.cells cells t (0, 0))) (ht : e ≠ t) (hk : KeepBut w w1 g none) : OwnRow R e size w1 base v ps := by
  obtain ⟨inner, ho, hr⟩ := h
  exact ⟨inner, hk.own ho (Ne.symm (own_ne ho hb ht)) (by cases v.ownBlock <;> simp), hr⟩
theorem OwnRow.lower (h : OwnRow R e size w base v ps) {base' : Nat} (hb : base' ≤ base) : OwnRow R e size w base' v ps := by
  obtain ⟨inner, ho, hr⟩ := h
  exact ⟨inner, own_weaken ho hb, hr⟩
theorem OwnRow.slice_ (h : OwnRow R e size w base v ps) : ∃ A c, v = .slice A ps.length c ∧ ps.length ≤ c := by
  obtain ⟨inner, ho, hr⟩ := h
  obtain ⟨A, c, rfl⟩ := own_slice ho
  exact ⟨A, c, rfl, own_le ho⟩
theorem OwnRow.reads (h : OwnRow R e size w base v ps) : ∃ A c, v = .slice A ps.length c ∧ ps.length ≤ c ∧ ReadsRow R size w A ps.length ps := by
  obtain ⟨inner, ho, hr⟩ := h
  obtain ⟨A, c, rfl, hrow⟩ := own_reads_row ho hr rfl
  exact ⟨A, c, rfl, own_le ho, hrow⟩
end
section
variable {P : Program} {ops : Array Oper} {rest : List Oper} {o : Oper} {a : Act} {Q : Exit → Act → World → Prop} {α : Type} {R : α → List Value → Prop}
theorem OwnRow.append {w0 W : World} (base : Nat) (hgd : o.guard = none) (s x : Operand) (t e : TypeId) (z : Value) (size bytes : Nat)
    (ho : o.op = .call { callee := .builtin .append, args := #[s, x], argTypes := #[t, t] })
    (ht : P.underlying t = some (.slice e)) (hinfo : (P.info? e).map (fun i => (i.zero, i.size, i.bytes)) = some (some z, size, bytes)) (hz : z.cells.size = size) (hs0 : 0 < size) (hb0 : 0 < bytes)
    (v : Value) (ps : List α) (p : α) (cs : List Value) (hs : a.eval s = v) (hx : a.eval x = .slice (some ⟨W.heap.size, 0, none⟩) 1 1) (hp : R p cs) (hcs : cs.length = size) (h1 : ∀ u ∈ cs, u.oneCell' = true)
    (HO : OwnRow R e size W base v ps) (HB : Below base w0 W) (hbase : base ≤ W.heap.size) (hl : (ps.length + 1) * bytes ≤ 140737488355328)
    (h : ∀ v1 w1, OwnRow R e size w1 base v1 (ps ++ [p]) → Below base w0 w1 → W.grownBy w1 v.ownBlock → (v1.ownBlock = v.ownBlock ∨ ∃ b, v1.ownBlock = some b ∧ W.heap.size ≤ b) → wpList P ops Q rest (a.put o.dst v1) w1) :
    wpList P ops Q (o :: rest) a (W.alloc (.cells cs.toArray e)) := by
  obtain ⟨inner, hown, hr⟩ := HO
  refine print_append_cells base hgd s x t e z size bytes ho ht hinfo hz hs0 hb0 v ps.length inner cs hs hx hcs h1 hown HB hbase hl ?_
  intro v1 w1 hown1 hb1 hg1 hat1
  exact h v1 w1 ⟨inner ++ cs, by rw [List.length_append, List.length_singleton]; exact hown1, hr.snoc hp hcs⟩ hb1 hg1 hat1
end
section
variable {P : Program} {ops : Array Oper} {o : Oper} {a : Act} {Q : Exit → Act → World → Prop} {K : Act → World → Prop} {α : Type} {R : α → List Value → Prop}
end
section
variable {α : Type} {P : Program}
end
section
variable {P : Program} {ops : Array Oper} {rest : List Oper} {o : Oper} {a : Act} {Q : Exit → Act → World → Prop}
end
structure Kd (α : Type) where
  sz : Nat
  E : List Nat
  K : World → α → List Value → Prop
  M : World → Nat → (Nat → Prop) → α → List Value → Prop
  K_len : ∀ {w x cs}, K w x cs → cs.length = sz
  K_one : ∀ {w x cs}, K w x cs → ∀ u ∈ cs, u.oneCell' = true
  K_below : ∀ {w w1 : World} {x cs}, Below w.heap.size w w1 → K w x cs → K w1 x cs
  K_of_M : ∀ {w base ok x cs}, M w base ok x cs → K w x cs
  M_mono : ∀ {w base ok ok' x cs}, (∀ k, ok k → ok' k) → M w base ok x cs → M w base ok' x cs
  M_bound : ∀ {w : World} {base ok x cs}, M w base ok x cs → M w base (fun k => ok k ∧ base ≤ k ∧ k < w.heap.size ∧ ∃ q, q ∈ E ∧ ∃ cells, w.heap[k]? = some (.cells cells q (0, 0))) x cs
  M_move : ∀ {w w1 : World} {base ok x cs}, (∀ k, ok k → w1.heap[k]? = w.heap[k]?) → M w base ok x cs → M w1 base ok x cs
  M_lower : ∀ {w base base' ok x cs}, base' ≤ base → M w base ok x cs → M w base' ok x cs
theorem own_move {w w1 : World} {base : Nat} {e : TypeId} {size n : Nat} {v : Value} {xs : List Value} (h : w.ownsRow base e size v n xs) (hm : ∀ k, v.ownBlock = some k → w1.heap[k]? = w.heap[k]?) : w1.ownsRow base e size v n xs := by
  obtain ⟨h1, h2⟩ := h
  refine ⟨h1, ?_⟩
  rcases h2 with h2 | ⟨g, cap, cur, rfl, hg, hh, r⟩
  · exact .inl h2
  · exact .inr ⟨g, cap, cur, rfl, hg, (hm g (by simp [Value.ownBlock])).trans hh, r⟩
theorem own_typed {w : World} {base : Nat} {e : TypeId} {size n : Nat} {v : Value} {xs : List Value} (h : w.ownsRow base e size v n xs) (k : Nat) (hk : v.ownBlock = some k) : ∃ cells, w.heap[k]? = some (.cells cells e (0, 0)) := by
  rcases h.2 with ⟨rfl, _⟩ | ⟨g, cap, cur, rfl, hg, hh, r⟩
  · simp [Value.ownBlock] at hk
  · have : g = k := by simpa [Value.ownBlock] using hk
    subst this
    exact ⟨cur, hh⟩
namespace Kd
def C {α : Type} (d : Kd α) (w : World) (A : Option Addr) (n : Nat) (xs : List α) : Prop := ReadsRow (d.K w) d.sz w A n xs
def R {α : Type} (d : Kd α) (e : Nat) (w : World) (base : Nat) (ok : Nat → Prop) (v : Value) (xs : List α) : Prop :=
  (∀ k, v.ownBlock = some k → ok k) ∧ OwnRow (d.M w base (fun k => ok k ∧ some k ≠ v.ownBlock)) e d.sz w base v xs
section
variable {α : Type} {d : Kd α} {e : Nat} {w w1 : World} {base : Nat} {ok ok' : Nat → Prop} {v : Value} {xs : List α}
theorem C_below {A : Option Addr} {n : Nat} (h : d.C w A n xs) (hb : Below w.heap.size w w1) : d.C w1 A n xs := ReadsRow.imp_ h hb (fun _ _ hp => d.K_below hb hp)
theorem R_mono (h : d.R e w base ok v xs) (hok : ∀ k, ok k → ok' k) : d.R e w base ok' v xs := ⟨fun k hk => hok k (h.1 k hk), h.2.imp_ (fun _ _ hp => d.M_mono (fun k hk => ⟨hok k hk.1, hk.2⟩) hp)⟩
theorem R_bound (h : d.R e w base ok v xs) : d.R e w base (fun k => ok k ∧ base ≤ k ∧ k < w.heap.size ∧ ∃ q, q ∈ e :: d.E ∧ ∃ cells, w.heap[k]? = some (.cells cells q (0, 0))) v xs := by
  obtain ⟨h0, inner, ho, hr⟩ := h
  refine ⟨fun k hk => ?_, inner, ho, hr.imp_ (fun _ _ hp => d.M_mono (fun k hk => ?_) (d.M_bound hp))⟩
  · obtain ⟨cells, hc⟩ := own_typed ho k hk
    exact ⟨h0 k hk, own_base ho k hk, own_lt ho k hk, e, List.mem_cons_self, cells, hc⟩
  · obtain ⟨⟨h1, h2⟩, h3, h4, q, hq, hc⟩ := hk
    exact ⟨⟨h1, h3, h4, q, List.mem_cons_of_mem _ hq, hc⟩, h2⟩
theorem R_move (h : d.R e w base ok v xs) (hm : ∀ k, ok k → w1.heap[k]? = w.heap[k]?) : d.R e w1 base ok v xs := by
  obtain ⟨h0, inner, ho, hr⟩ := h
  exact ⟨h0, inner, own_move ho (fun k hk => hm k (h0 k hk)), hr.imp_ (fun _ _ hp => d.M_move (fun k hk => hm k hk.1) hp)⟩
theorem R_lower {base' : Nat} (h : d.R e w base ok v xs) (hb : base' ≤ base) : d.R e w base' ok v xs := by
  obtain ⟨h0, inner, ho, hr⟩ := h
  exact ⟨h0, inner, own_weaken ho hb, hr.imp_ (fun _ _ hp => d.M_lower hb hp)⟩
theorem R_reads (h : d.R e w base ok v xs) : ∃ A c, v = .slice A xs.length c ∧ xs.length ≤ c ∧ d.C w A xs.length xs := by
  obtain ⟨A, c, he, hl, hr⟩ := OwnRow.reads h.2
  exact ⟨A, c, he, hl, hr.imp_ (Below.refl _ _) (fun _ _ hp => d.K_of_M hp)⟩
end
def scalar {α : Type} (enc : α → Value) (h1 : ∀ x, (enc x).oneCell' = true) : Kd α where
  sz := 1
  E := []
  K := fun _ x cs => cs = [enc x]
  M := fun _ _ _ x cs => cs = [enc x]
  K_len := fun h => by rw [h]; rfl
  K_one := fun h u hu => by
    rw [h] at hu
    rw [List.mem_singleton.1 hu]
    exact h1 _
  K_below := fun _ h => h
  K_of_M := fun h => h
  M_mono := fun _ h => h
  M_bound := fun h => h
  M_move := fun _ h => h
  M_lower := fun _ h => h
def int (k : IntKind) : Kd Int := scalar (Value.int k) (fun _ => rfl)
def bool : Kd Bool := scalar Value.bool (fun _ => rfl)
def string : Kd ByteArray := scalar Value.string (fun _ => rfl)
def slice {α : Type} (e : Nat) (d : Kd α) : Kd (List α) where
  sz := 1
  E := e :: d.E
  K := fun w xs cs => ∃ A c, cs = [.slice A xs.length c] ∧ xs.length ≤ c ∧ d.C w A xs.length xs
  M := fun w base ok xs cs => ∃ v, cs = [v] ∧ d.R e w base ok v xs
  K_len := by
    rintro w x cs ⟨A, c, rfl, _⟩
    rfl
  K_one := by
    rintro w x cs ⟨A, c, rfl, _⟩ u hu
    rw [List.mem_singleton.1 hu]
    rfl
  K_below := by
    rintro w w1 x cs hb ⟨A, c, rfl, hl, hr⟩
    exact ⟨A, c, rfl, hl, C_below hr hb⟩
  K_of_M := by
    rintro w base ok x cs ⟨v, rfl, h⟩
    obtain ⟨A, c, rfl, hl, hr⟩ := R_reads h
    exact ⟨A, c, rfl, hl, hr⟩
  M_mono := by
    rintro w base ok ok' x cs hok ⟨v, rfl, h⟩
    exact ⟨v, rfl, R_mono h hok⟩
  M_bound := by
    rintro w base ok x cs ⟨v, rfl, h⟩
    exact ⟨v, rfl, R_bound h⟩
  M_move := by
    rintro w w1 base ok x cs hm ⟨v, rfl, h⟩
    exact ⟨v, rfl, R_move h hm⟩
  M_lower := by
    rintro w base base' ok x cs hb ⟨v, rfl, h⟩
    exact ⟨v, rfl, R_lower h hb⟩
def pair {α β : Type} (a : Kd α) (b : Kd β) : Kd (α × β) where
  sz := a.sz + b.sz
  E := a.E ++ b.E
  K := fun w x cs => ∃ c0 c1, cs = c0 ++ c1 ∧ a.K w x.1 c0 ∧ b.K w x.2 c1
  M := fun w base ok x cs => ∃ c0 c1, cs = c0 ++ c1 ∧ a.M w base ok x.1 c0 ∧ b.M w base ok x.2 c1
  K_len := by
    rintro w x cs ⟨c0, c1, rfl, h0, h1⟩
    rw [List.length_append, a.K_len h0, b.K_len h1]
  K_one := by
    rintro w x cs ⟨c0, c1, rfl, h0, h1⟩ u hu
    rcases List.mem_append.1 hu with hu | hu
    · exact a.K_one h0 u hu
    · exact b.K_one h1 u hu
  K_below := by
    rintro w w1 x cs hb ⟨c0, c1, rfl, h0, h1⟩
    exact ⟨c0, c1, rfl, a.K_below hb h0, b.K_below hb h1⟩
  K_of_M := by
    rintro w base ok x cs ⟨c0, c1, rfl, h0, h1⟩
    exact ⟨c0, c1, rfl, a.K_of_M h0, b.K_of_M h1⟩
  M_mono := by
    rintro w base ok ok' x cs hok ⟨c0, c1, rfl, h0, h1⟩
    exact ⟨c0, c1, rfl, a.M_mono hok h0, b.M_mono hok h1⟩
  M_bound := by
    rintro w base ok x cs ⟨c0, c1, rfl, h0, h1⟩
    refine ⟨c0, c1, rfl, a.M_mono ?_ (a.M_bound h0), b.M_mono ?_ (b.M_bound h1)⟩
    · rintro k ⟨h2, h3, h4, q, hq, hc⟩
      exact ⟨h2, h3, h4, q, List.mem_append_left _ hq, hc⟩
    · rintro k ⟨h2, h3, h4, q, hq, hc⟩
      exact ⟨h2, h3, h4, q, List.mem_append_right _ hq, hc⟩
  M_move := by
    rintro w w1 base ok x cs hm ⟨c0, c1, rfl, h0, h1⟩
    exact ⟨c0, c1, rfl, a.M_move hm h0, b.M_move hm h1⟩
  M_lower := by
    rintro w base base' ok x cs hb ⟨c0, c1, rfl, h0, h1⟩
    exact ⟨c0, c1, rfl, a.M_lower hb h0, b.M_lower hb h1⟩
def iso {α β : Type} (d : Kd α) (f : β → α) : Kd β where
  sz := d.sz
  E := d.E
  K := fun w x cs => d.K w (f x) cs
  M := fun w base ok x cs => d.M w base ok (f x) cs
  K_len := d.K_len
  K_one := d.K_one
  K_below := d.K_below
  K_of_M := d.K_of_M
  M_mono := d.M_mono
  M_bound := d.M_bound
  M_move := d.M_move
  M_lower := d.M_lower
def bot {α : Type} (sz : Nat) (E : List Nat) : Kd α where
  sz := sz
  E := E
  K := fun _ _ _ => False
  M := fun _ _ _ _ _ => False
  K_len := fun h => h.elim
  K_one := fun h => h.elim
  K_below := fun _ h => h
  K_of_M := fun h => h
  M_mono := fun _ h => h
  M_bound := fun h => h
  M_move := fun _ h => h
  M_lower := fun _ h => h
def upto {α : Type} (F : Kd α → Kd α) (sz : Nat) (E : List Nat) : Nat → Kd α
  | 0 => bot sz E
  | n + 1 => F (upto F sz E n)
theorem C_get {α : Type} {d : Kd α} {w : World} {A : Option Addr} {n : Nat} {xs : List α} (h : d.C w A n xs) (z : α) (i : Int) (h0 : 0 ≤ i) (h1 : i < n) :
    ∃ ad c, A = some ad ∧ c.length = d.sz ∧ d.K w (xs.getD i.toNat z) c ∧ ∀ j u, c[j]? = some u → w.cell? (ad.add (i.toNat * d.sz + j)) = some u := ReadsRow.get_ h z i h0 h1
section
variable {P : Program} {ops : Array Oper} {rest : List Oper} {o : Oper} {a : Act} {Q : Exit → Act → World → Prop} {α : Type}
end
section
variable {P : Program} {ops : Array Oper} {o : Oper} {a : Act} {Q : Exit → Act → World → Prop} {Kc : Act → World → Prop} {α : Type}
end
theorem reps_scalar {α : Type} {enc : α → Value} (xs : List α) : Reps (fun (x : α) (cs : List Value) => cs = [enc x]) 1 xs (encs enc xs) := by
  refine ⟨by simp [encs], fun j p hj => ?_⟩
  obtain ⟨hl, hp⟩ := List.getElem?_eq_some_iff.1 hj
  have hl' : j < (encs enc xs).length := by rw [encs_length]; exact hl
  rw [Nat.mul_one, List.drop_eq_getElem_cons hl']
  simp [encs, hp]
theorem R_of_own {α : Type} {enc : α → Value} {h1 : ∀ x, (enc x).oneCell' = true} {e : Nat} {w : World} {base : Nat} {ok : Nat → Prop} {v : Value} {xs : List α} (ho : w.ownsRow base e 1 v xs.length (encs enc xs)) (hok : ∀ k, v.ownBlock = some k → ok k) : (scalar enc h1).R e w base ok v xs := ⟨hok, encs enc xs, ho, reps_scalar xs⟩
theorem own_of_R {α : Type} {enc : α → Value} {h1 : ∀ x, (enc x).oneCell' = true} {e : Nat} {w : World} {base : Nat} {ok : Nat → Prop} {v : Value} {xs : List α} (h : (scalar enc h1).R e w base ok v xs) : w.ownsRow base e 1 v xs.length (encs enc xs) := by
  obtain ⟨_, inner, ho, hr⟩ := h
  have : inner = encs enc xs := by
    apply List.ext_getElem?
    intro j
    rcases Nat.lt_or_ge j xs.length with hj | hj
    · have h2 := hr.2 j _ (List.getElem?_eq_getElem hj)
      have hl : j < inner.length := by have := hr.1; simp [scalar] at this; omega
      have h3 : (inner.drop (j * 1)).take 1 = [enc xs[j]] := h2
      rw [Nat.mul_one, List.drop_eq_getElem_cons hl] at h3
      have h4 : inner[j] = enc xs[j] := by
        have h5 := congrArg List.head? h3
        rw [List.take_succ_cons] at h5
        exact Option.some.inj h5
      rw [List.getElem?_eq_getElem hl, h4]
      simp [encs, List.getElem?_eq_getElem hj]
    · have h3 : inner.length = xs.length := by have := hr.1; simp [scalar] at this; omega
      rw [List.getElem?_eq_none (by omega), List.getElem?_eq_none (by rw [encs_length]; omega)]
  rw [← this]
  exact ho
theorem reads_of_C {α : Type} {enc : α → Value} {d : α} {h1 : ∀ x, (enc x).oneCell' = true} {w : World} {A : Option Addr} {n : Nat} {xs : List α} (h : (scalar enc h1).C w A n xs) : ReadsOf enc d w A n xs := by
  refine ⟨h.1, h.2.1, fun hn => ?_⟩
  obtain ⟨ad, e, hc⟩ := h.2.2 hn
  refine ⟨ad, e, fun j hj => ?_⟩
  have hl : j < xs.length := by have := h.1; omega
  obtain ⟨c, _, hK, hcell⟩ := hc j _ (List.getElem?_eq_getElem hl)
  have hK' : c = [enc xs[j]] := hK
  subst hK'
  have := hcell 0 _ rfl
  simpa [scalar, List.getD_eq_getElem?_getD, List.getElem?_eq_getElem hl] using this
end Kd
namespace Kd
section
variable {α : Type} {F : Kd α → Kd α} {sz : Nat} {E : List Nat} {hs : ∀ n, (upto F sz E n).sz = sz} {hE : ∀ n q, q ∈ (upto F sz E n).E → q ∈ E}
end
end Kd
namespace Kd
end Kd
namespace Kd
section
variable {α β : Type} {d : Kd α} {d' : Kd β} {e e' : Nat} {w w1 W : World} {base b b' : Nat} {ok ok' okv oku : Nat → Prop} {v u : Value} {xs : List α} {ys : List β}
end
section
variable {w W : World} {A : Option Addr} {n : Nat}
theorem at_string {xs : List ByteArray} (h : Kd.string.C w A n xs) (i : Int) (h0 : 0 ≤ i) (h1 : i < n) : ∃ ad, A = some ad ∧ w.cell? (ad.add i.toNat) = some (.string (rdOf ByteArray.empty xs i)) :=
  ReadsOf.at_ (reads_of_C (enc := Value.string) (d := ByteArray.empty) (h1 := fun _ => rfl) h) i h0 h1
variable {α : Type} {enc : α → Value} {h1 : ∀ x, (enc x).oneCell' = true} {e base g cap : Nat} {ok : Nat → Prop} {xs : List α}
theorem R_put (h : (scalar enc h1).R e W base ok (.slice (some ⟨g, 0, none⟩) xs.length cap) xs) (i : Int) (x : α) : (scalar enc h1).R e (W.setCell ⟨g, i.toNat, none⟩ (enc x)) base ok (.slice (some ⟨g, 0, none⟩) xs.length cap) (xs.set i.toNat x) ∧ W.grownBy (W.setCell ⟨g, i.toNat, none⟩ (enc x)) (some g) := by
  obtain ⟨ho, hg⟩ := own_store_of (own_of_R h) i x
  exact ⟨R_of_own (by rw [List.length_set]; exact ho) h.1, hg⟩
end
section
variable {P : Program} {ops : Array Oper} {rest : List Oper} {o : Oper} {a : Act} {Q : Exit → Act → World → Prop}
theorem event_run {W w1 : World} {v : Value} (hgd : o.guard = none) (hrun : (execOp a.eval o).run P W = .ok (.value v) w1) (h : wpList P ops Q rest (a.put o.dst v) w1) : wpList P ops Q (o :: rest) a W := by
  refine wpList_plain hgd fun K hK => ?_
  unfold Oper.wp
  rw [hrun]
  exact hK _ _ h
variable {α : Type}
end
end Kd
section
variable {P : Program}
end
def QRow (w : World) (base : Nat) (e : TypeId) (size : Nat) (v : Value) (n : Nat) (xs : List Value) : Prop :=
  xs.length = n * size ∧
  ((n = 0 ∧ ∃ A, v = .slice A 0 0 ∧ ∀ a, A = some a → base ≤ a.block ∧ ∃ cur, w.heap[a.block]? = some (.cells cur e (0, 0))) ∨
   ∃ g off cap cur, v = .slice (some ⟨g, off * size, none⟩) n cap ∧ base ≤ g ∧ w.heap[g]? = some (.cells cur e (0, 0)) ∧ n ≤ cap ∧ off + cap ≤ maxLen ∧ cur.size = (off + cap) * size ∧ (cur.toList.drop (off * size)).take (n * size) = xs)
section
variable {w w1 : World} {base n size : Nat} {e : TypeId} {v : Value} {xs : List Value}
end
section
variable {P : Program}
end
namespace Kd
def Q {α : Type} (d : Kd α) (e : Nat) (w : World) (base : Nat) (ok : Nat → Prop) (v : Value) (xs : List α) : Prop :=
  (∀ k, v.ownBlock = some k → ok k) ∧ ∃ inner, QRow w base e d.sz v xs.length inner ∧ Reps (d.M w base (fun k => ok k ∧ some k ≠ v.ownBlock)) d.sz xs inner
section
variable {α : Type} {d : Kd α} {e : Nat} {w w1 W : World} {base : Nat} {ok ok' : Nat → Prop} {v : Value} {xs : List α}
end
section
variable {P : Program} {ops : Array Oper} {rest : List Oper} {o : Oper} {a : Act} {Q' : Exit → Act → World → Prop} {Kc : Act → World → Prop} {α : Type}
end
end Kd
namespace Kd
section
variable {α : Type} {d : Kd α} {e e' : Nat} {w w1 W : World} {base : Nat} {ok : Nat → Prop} {u v : Value} {xs : List α}
end
end Kd
namespace Kd
section
variable {α : Type} {d : Kd α} {e base g n cap : Nat} {ok okp : Nat → Prop} {W : World} {xs : List α}
end
end Kd
namespace Kd
section
variable {α : Type} {F : Kd α → Kd α} {sz : Nat} {E : List Nat} {hs : ∀ n, (upto F sz E n).sz = sz} {hE : ∀ n q, q ∈ (upto F sz E n).E → q ∈ E}
end
end Kd
namespace Kd
section
variable {P : Program} {ops : Array Oper} {rest : List Oper} {o : Oper} {a : Act} {Q : Exit → Act → World → Prop} {α : Type}
end
end Kd
namespace Kd
section
variable {P : Program} {ops : Array Oper} {rest : List Oper} {o : Oper} {a : Act} {Q : Exit → Act → World → Prop} {α : Type}
end
end Kd
theorem add_add (a : Addr) (i j : Nat) : (a.add i).add j = a.add (i + j) := by
  unfold Addr.add
  by_cases h1 : i = 0 <;> by_cases h2 : j = 0 <;> simp [h1, h2, Nat.add_assoc]
namespace Kd
section
variable {α : Type} {k : Kd α} {w : World} {A : Option Addr} {xs : List α} {m c : Nat}
end
end Kd
section
variable {P : Program}
end
theorem below_size {w W : World} (h : Below w.heap.size w W) : w.heap.size ≤ W.heap.size := h.size
theorem below_step {w W w2 : World} (h : Below w.heap.size w W) (k : Below W.heap.size W w2) : Below w.heap.size w w2 := below_then h h.size k
theorem ReadsInt.nil (W : World) (k : IntKind) : ReadsInt W k none ([] : List Int).length [] := ⟨rfl, by simp, fun h => absurd h (Nat.lt_irrefl 0)⟩
theorem ReadsInt.drewN {W : World} {k : IntKind} {A : Option Addr} {n : Nat} {xs : List Int} (h : ReadsInt W k A n xs) (m : Nat) : ReadsInt (W.drewN m) k A n xs := h
theorem below_set {w W : World} {g j : Nat} {v : Value} (h : Below w.heap.size w W) (hg : w.heap.size ≤ g) : Below w.heap.size w (W.setCell ⟨g, j, none⟩ v) := h.setCell hg _
theorem keep_cell {w W : World} {g : Nat} (h : KeepBut w W g none) {a : Addr} {v : Value} (hc : w.cell? a = some v) (hne : a.block ≠ g) : W.cell? a = some v := by
  have := h.2 a.block (World.block_lt_of_cell? w a hc) hne (by simp)
  simpa [World.cell?, this] using hc
theorem add_block (a : Addr) (i : Nat) : (a.add i).block = a.block := by unfold Addr.add; split <;> rfl
theorem ReadsOf.nil {α : Type} (enc : α → Value) (d : α) (W : World) : ReadsOf enc d W none ([] : List α).length [] := ⟨rfl, by simp, fun h => absurd h (Nat.lt_irrefl 0)⟩
theorem ReadsOf.drewN {α : Type} {enc : α → Value} {d : α} {W : World} {A : Option Addr} {n : Nat} {xs : List α} (h : ReadsOf enc d W A n xs) (m : Nat) : ReadsOf enc d (W.drewN m) A n xs := h
theorem ReadsInt.keep {w W : World} {k : IntKind} {A : Option Addr} {n g : Nat} {xs : List Int} (h : ReadsInt w k A n xs) (hk : KeepBut w W g none) (hf : ∀ ad, A = some ad → 0 < n → ad.block ≠ g) : ReadsInt W k A n xs :=
  ⟨h.1, h.2.1, fun hn => by
    obtain ⟨ad, e, hc⟩ := h.2.2 hn
    exact ⟨ad, e, fun j hj => keep_cell hk (hc j hj) (by rw [add_block]; exact hf ad e hn)⟩⟩
theorem ReadsOf.keep {α : Type} {enc : α → Value} {d : α} {w W : World} {A : Option Addr} {n g : Nat} {xs : List α} (h : ReadsOf enc d w A n xs) (hk : KeepBut w W g none) (hf : ∀ ad, A = some ad → 0 < n → ad.block ≠ g) : ReadsOf enc d W A n xs :=
  ⟨h.1, h.2.1, fun hn => by
    obtain ⟨ad, e, hc⟩ := h.2.2 hn
    exact ⟨ad, e, fun j hj => keep_cell hk (hc j hj) (by rw [add_block]; exact hf ad e hn)⟩⟩
theorem below_drew1 {base : Nat} {w W : World} (h : Below base w W) : Below base w W.drew := h.drew
namespace Kd
section
variable {α β : Type} {d : Kd α} {d' : Kd β} {e e' base base' n : Nat} {ok ok' : Nat → Prop} {w W w1 W1 : World} {v u : Value} {xs : List α} {ys : List β} {A : Option Addr} {c : Nat}
end
section
variable {α : Type} {enc : α → Value} {h1 : ∀ x, (enc x).oneCell' = true} {w W : World} {A : Option Addr} {n g : Nat} {xs : List α}
end
end Kd
namespace Kd
section
variable {α : Type} {d : Kd α} {e base g : Nat} {ok : Nat → Prop} {w w1 : World} {v : Value} {xs : List α} {o : Obj}
end
end Kd
section
variable {P : Program} {ops : Array Oper} {rest : List Oper} {o : Oper} {a : Act} {Q : Exit → Act → World → Prop}
theorem box_event {W : World} (hgd : o.guard = none) {N : Tmp} (_hd : o.dst = some N) {cs : Array Value} {t : TypeId}
    (hrun : (execOp a.eval o).run P W = .ok (.value (.pointer (some ⟨W.heap.size, 0, none⟩))) (W.alloc (.cells cs t (0, 0))))
    (h : ∀ g, g = W.heap.size → ∀ w1, w1.heap[g]? = some (.cells cs t (0, 0)) → Below W.heap.size W w1 → wpList P ops Q rest (a.put o.dst (.pointer (some ⟨g, 0, none⟩))) w1) : wpList P ops Q (o :: rest) a W :=
  Kd.event_run hgd hrun (h _ rfl _ (blk_new W _) (below_alloc (Below.refl _ _) _))
end
namespace Kd
section
variable {α : Type} {enc : α → Value} {h1 : ∀ x, (enc x).oneCell' = true} {e base g n cap : Nat} {ok : Nat → Prop} {W : World} {xs : List α}
end
end Kd
section
variable {P : Program} {ops : Array Oper} {rest : List Oper} {o : Oper} {a : Act} {Q : Exit → Act → World → Prop}
end
namespace Kd
section
variable {α : Type} {enc : α → Value} {h1 : ∀ x, (enc x).oneCell' = true} {e base g n cap : Nat} {ok : Nat → Prop} {W : World} {xs : List α}
end
end Kd
section
variable {P : Program} {ops : Array Oper} {rest : List Oper} {o : Oper} {a : Act} {Q : Exit → Act → World → Prop} {W : World}
theorem gate_dst {N : Tmp} (_hN : o.dst = some N) (h : wpList P ops Q (o :: rest) a W) : wpList P ops Q (o :: rest) a W := h
end
section
variable {P : Program} {ops : Array Oper} {o : Oper} {a : Act} {Q : Exit → Act → World → Prop} {Kc : Act → World → Prop}
namespace Kd
variable {α : Type}
end Kd
end
section
variable {P : Program} {tmps : Array Value} {w : World}
end
namespace Kd
section
variable {P : Program} {α : Type}
end
section
variable {P : Program} {ops : Array Oper} {rest : List Oper} {o : Oper} {a : Act} {Q : Exit → Act → World → Prop} {Kc : Act → World → Prop} {α : Type}
end
end Kd
end Go.Proofs.YtckfkbmefdmedaaW.PrintWords
namespace Go.Proofs.YtckfkbmefdmedaaW.PrintLast
section
variable {P : Program} {ops : Array Oper} {Q : Exit → Act → World → Prop} {md : Region.Mode} {S : World → Prop} {ds : List Nat}
def Region.reachB (md : Region.Mode) (ops : Array Oper) (i : Nat) : Nat → Nat → Bool
  | 0, _ => false
  | fuel + 1, d => match ops[d]? with
    | some o => o.after.any fun e => Region.binds md e && (e.on == i || Region.reachB md ops i fuel e.on)
    | none => false
def Region.closedB (md : Region.Mode) (ops : Array Oper) (listed : Array Bool) : Bool :=
  (List.range ops.size).all fun j => !listed.getD j false || match ops[j]? with
    | some o => o.after.all fun e => !Region.binds md e || listed.getD e.on false
    | none => true
def Region.lastB (md : Region.Mode) (ops : Array Oper) (listed : Array Bool) (ds : List Nat) (i : Nat) : Bool :=
  ds.all fun d => listed.getD d true || Region.reachB md ops i ops.size d
def ListedClosed (md : Region.Mode) (ops : Array Oper) (listed : Array Bool) : Prop :=
  ∀ j oj, ops[j]? = some oj → listed.getD j false = true → ∀ e ∈ oj.after, Region.binds md e = true → listed.getD e.on false = true
theorem Region.closedB_spec {listed : Array Bool} (h : Region.closedB md ops listed = true) : ListedClosed md ops listed := by
  intro j oj hj hl e he hb
  have hlt : j < ops.size := (Array.getElem?_eq_some_iff.1 hj).1
  have h1 := List.all_eq_true.1 h j (List.mem_range.2 hlt)
  simp only [hl, hj, Bool.not_true, Bool.false_or] at h1
  have h2 := Array.all_eq_true_iff_forall_mem.1 h1 e he
  simpa [hb] using h2
theorem ListedClosed.set {listed : Array Bool} {i : Nat} (h : ListedClosed md ops listed) (hi : i ∈ Region.ready md ops listed) : ListedClosed md ops (listed.setIfInBounds i true) := by
  obtain ⟨_, oi, hoi, hall⟩ := mem_ready.1 hi
  intro j oj hj hl e he hb
  by_cases hij : i = j
  · subst hij
    have : oj = oi := Option.some.inj (hj.symm.trans hoi)
    subst this
    exact getD_set_true (hall e he hb)
  · rw [getD_set_ne false hij] at hl
    exact getD_set_true (h j oj hj hl e he hb)
theorem Region.reach_listed {listed : Array Bool} {i : Nat} (hc : ListedClosed md ops listed) : ∀ (fuel d : Nat), Region.reachB md ops i fuel d = true → listed.getD d false = true → listed.getD i false = true
  | 0, _, h, _ => by simp [Region.reachB] at h
  | fuel + 1, d, h, hl => by
    unfold Region.reachB at h
    cases ho : ops[d]? with
    | none => rw [ho] at h; simp at h
    | some o =>
      rw [ho] at h
      obtain ⟨e, he, h1⟩ := Array.any_eq_true'.1 h
      simp only [Bool.and_eq_true, Bool.or_eq_true, beq_iff_eq] at h1
      have hle := hc d o ho hl e he h1.1
      rcases h1.2 with h2 | h2
      · rw [← h2]; exact hle
      · exact Region.reach_listed hc fuel e.on h2 hle
theorem Region.reach_not_ready {listed : Array Bool} {i d fuel : Nat} (hc : ListedClosed md ops listed) (hr : Region.reachB md ops i fuel d = true) (hun : listed.getD i true = false) : d ∉ Region.ready md ops listed := by
  intro hd
  obtain ⟨_, o, ho, hall⟩ := mem_ready.1 hd
  have hi : listed.getD i false = true := by
    cases fuel with
    | zero => simp [Region.reachB] at hr
    | succ n =>
      unfold Region.reachB at hr
      rw [ho] at hr
      obtain ⟨e, he, h1⟩ := Array.any_eq_true'.1 hr
      simp only [Bool.and_eq_true, Bool.or_eq_true, beq_iff_eq] at h1
      have hle := hall e he h1.1
      rcases h1.2 with h2 | h2
      · rw [← h2]; exact hle
      · exact Region.reach_listed hc n e.on h2 hle
  rcases Nat.lt_or_ge i listed.size with h' | h'
  · simp [h'] at hun hi
    rw [hun] at hi
    cases hi
  · simp [Array.getElem?_eq_none h'] at hun
def wpAnyLast (P : Program) (md : Region.Mode) (ops : Array Oper) (Q : Exit → Act → World → Prop) (S : World → Prop) (ds : List Nat) : Nat → Array Bool → Act → World → Prop
  | 0, listed, a, w => Region.ready md ops listed = [] ∧ Q .normal a w
  | fuel + 1, listed, a, w =>
    (Region.ready md ops listed = [] → Q .normal a w) ∧
    ∀ i ∈ Region.ready md ops listed, wpOp P ops Q i (fun a' w' => (i ∉ ds → S w → S w') ∧ wpAnyLast P md ops Q S ds fuel (listed.setIfInBounds i true) a' w') a w
theorem wpAny_of_last : ∀ (fuel : Nat) (listed : Array Bool) (a : Act) (w : World), wpAnyLast P md ops Q S ds fuel listed a w → wpAny P md ops Q fuel listed a w
  | 0, _, _, _, h => h
  | fuel + 1, _, _, _, h => ⟨h.1, fun i hi => wpOp_mono (fun a' w' h' => wpAny_of_last fuel _ a' w' h'.2) (h.2 i hi)⟩
theorem wpAnyLast_first {i : Nat} {oi : Oper} {v : Value} (hi : ops[i]? = some oi) (hsel : ∀ (j : Nat) (o : Oper) cs b, ops[j]? = some o → o.op ≠ .select cs b)
    (hQ : ∀ c a w, Q (.panic c) (a.put oi.dst v) w → Q (.panic c) a w) (n : Nat) :
    ∀ (fuel : Nat) (listed : Array Bool) (a : Act) (w : World),
      (∀ j oj, ops[j]? = some oj → j ≠ i → listed.getD j true = false → (∀ e ∈ oj.after, Region.binds md e = true → e.on ≠ i) → oi.apart ops oj = true) →
      ListedClosed md ops listed → (∀ d ∈ ds, listed.getD d true = false → Region.reachB md ops i n d = true) →
      i ∈ Region.ready md ops listed → YieldsIf P ops S oi v a → S w →
      wpAnyLast P md ops Q S ds fuel (listed.setIfInBounds i true) (a.put oi.dst v) w → wpAnyLast P md ops Q S ds (fuel + 1) listed a w := by
  intro fuel
  induction fuel with
  | zero =>
    intro listed a w _ _ _ hr hy hS H
    refine ⟨fun h => (by rw [h] at hr; cases hr), fun j hj => ?_⟩
    by_cases hji : j = i
    · subst hji; exact hy.wpOp hi hS ⟨fun _ h => h, H⟩
    · have := ready_mono hj hji
      rw [H.1] at this
      cases this
  | succ fuel ih =>
    intro listed a w hfree hc hd hr hy hS H
    refine ⟨fun h => (by rw [h] at hr; cases hr), fun j hj => ?_⟩
    by_cases hji : j = i
    · subst hji; exact hy.wpOp hi hS ⟨fun _ h => h, H⟩
    · have h1 := H.2 j (ready_mono hj hji)
      obtain ⟨hjun, oj, hoj, hall⟩ := mem_ready.1 hj
      have hiun := (mem_ready.1 hr).1
      have hnot : ∀ e ∈ oj.after, Region.binds md e = true → e.on ≠ i := fun e he hb heq => by
        have h1 := hall e he hb
        rw [heq] at h1
        rcases Nat.lt_or_ge i listed.size with h' | h'
        · simp [h'] at hiun h1; rw [hiun] at h1; cases h1
        · simp [Array.getElem?_eq_none h'] at h1
      have hjd : j ∉ ds := fun hm => Region.reach_not_ready hc (hd j hm hjun) hiun hj
      have h2 := wpOp_putIf hoj (hfree j oj hoj hji hjun hnot) (fun cs b => hsel i oi cs b hi) (fun cs b => hsel j oj cs b hoj) hQ hy h1
      have hfree' : ∀ k ok, ops[k]? = some ok → k ≠ i → (listed.setIfInBounds j true).getD k true = false →
          (∀ e ∈ ok.after, Region.binds md e = true → e.on ≠ i) → oi.apart ops ok = true := fun k ok hk hki hun hno => by
        refine hfree k ok hk hki ?_ hno
        by_cases hjk : j = k
        · subst hjk; exact hjun
        · rw [getD_set_ne true hjk] at hun; exact hun
      have hd' : ∀ d ∈ ds, (listed.setIfInBounds j true).getD d true = false → Region.reachB md ops i n d = true := fun d hm hun => by
        refine hd d hm ?_
        by_cases hjk : j = d
        · subst hjk; exact hjun
        · rw [getD_set_ne true hjk] at hun; exact hun
      refine wpOp_mono (fun a' w' h3 => ⟨h3.2.1, ih (listed.setIfInBounds j true) a' w' hfree' (hc.set hj) hd' (ready_mono hr (Ne.symm hji)) h3.1 (h3.2.1 hjd hS) ?_⟩) h2
      rw [Array.setIfInBounds_comm _ _ hji]
      exact h3.2.2
theorem wpAnyLast_any {i : Nat} {oi : Oper} {v : Value} (hi : ops[i]? = some oi) (hsel : ∀ (j : Nat) (o : Oper) cs b, ops[j]? = some o → o.op ≠ .select cs b)
    (hQ : ∀ c a w, Q (.panic c) (a.put oi.dst v) w → Q (.panic c) a w) :
    ∀ (fuel : Nat) (listed : Array Bool) (a : Act) (w : World),
      (∀ j oj, ops[j]? = some oj → j ≠ i → listed.getD j true = false → (∀ e ∈ oj.after, Region.binds md e = true → e.on ≠ i) → oi.apart ops oj = true) →
      i ∈ Region.ready md ops listed → Yields P ops oi v a →
      wpAnyLast P md ops Q S ds fuel (listed.setIfInBounds i true) (a.put oi.dst v) w → wpAnyLast P md ops Q S ds (fuel + 1) listed a w := by
  intro fuel
  induction fuel with
  | zero =>
    intro listed a w _ hr hy H
    refine ⟨fun h => (by rw [h] at hr; cases hr), fun j hj => ?_⟩
    by_cases hji : j = i
    · subst hji; exact (hy.yieldsIf (S := fun _ => True)).wpOp hi trivial ⟨fun _ h => h, H⟩
    · have := ready_mono hj hji
      rw [H.1] at this
      cases this
  | succ fuel ih =>
    intro listed a w hfree hr hy H
    refine ⟨fun h => (by rw [h] at hr; cases hr), fun j hj => ?_⟩
    by_cases hji : j = i
    · subst hji; exact (hy.yieldsIf (S := fun _ => True)).wpOp hi trivial ⟨fun _ h => h, H⟩
    · have h1 := H.2 j (ready_mono hj hji)
      obtain ⟨hjun, oj, hoj, hall⟩ := mem_ready.1 hj
      have hiun := (mem_ready.1 hr).1
      have hnot : ∀ e ∈ oj.after, Region.binds md e = true → e.on ≠ i := fun e he hb heq => by
        have h1 := hall e he hb
        rw [heq] at h1
        rcases Nat.lt_or_ge i listed.size with h' | h'
        · simp [h'] at hiun h1; rw [hiun] at h1; cases h1
        · simp [Array.getElem?_eq_none h'] at h1
      have h2 := wpOp_put hoj (hfree j oj hoj hji hjun hnot) (fun cs b => hsel i oi cs b hi) (fun cs b => hsel j oj cs b hoj) hQ hy h1
      have hfree' : ∀ k ok, ops[k]? = some ok → k ≠ i → (listed.setIfInBounds j true).getD k true = false →
          (∀ e ∈ ok.after, Region.binds md e = true → e.on ≠ i) → oi.apart ops ok = true := fun k ok hk hki hun hno => by
        refine hfree k ok hk hki ?_ hno
        by_cases hjk : j = k
        · subst hjk; exact hjun
        · rw [getD_set_ne true hjk] at hun; exact hun
      refine wpOp_mono (fun a' w' h3 => ⟨h3.2.1, ih (listed.setIfInBounds j true) a' w' hfree' (ready_mono hr (Ne.symm hji)) h3.1 ?_⟩) h2
      rw [Array.setIfInBounds_comm _ _ hji]
      exact h3.2.2
theorem wpAnyLast_take {i : Nat} {oi : Oper} {v : Value} {fuel : Nat} {listed : Array Bool} {a : Act} {w : World} (hi : ops[i]? = some oi)
    (hs : Region.noSelect ops = true) (hf : Region.free md ops listed i = true) (hr : (Region.ready md ops listed).contains i = true)
    (hc : Region.closedB md ops listed = true) (hl : Region.lastB md ops listed ds i = true)
    (hQ : ∀ c a w, Q (.panic c) (a.put oi.dst v) w → Q (.panic c) a w) (hy : YieldsIf P ops S oi v a) (hS : S w)
    (h : wpAnyLast P md ops Q S ds fuel (listed.setIfInBounds i true) (a.put oi.dst v) w) : wpAnyLast P md ops Q S ds (fuel + 1) listed a w :=
  wpAnyLast_first hi (Region.noSelect_spec hs) hQ ops.size fuel listed a w (Region.free_spec hi hf) (Region.closedB_spec hc)
    (fun d hm hun => by have := List.all_eq_true.1 hl d hm; rw [hun] at this; simpa using this) (by simpa using hr) hy hS h
theorem wpAnyLast_all {rs : List Nat} {fuel : Nat} {listed : Array Bool} {a : Act} {w : World} (hr : Region.ready md ops listed = rs) (hne : rs ≠ [])
    (h : ∀ i ∈ rs, wpOp P ops Q i (fun a' w' => (i ∉ ds → S w → S w') ∧ wpAnyLast P md ops Q S ds fuel (listed.setIfInBounds i true) a' w') a w) : wpAnyLast P md ops Q S ds (fuel + 1) listed a w :=
  ⟨fun h0 => absurd (hr ▸ h0) hne, hr ▸ h⟩
theorem wpAnyLast_done {listed : Array Bool} {a : Act} {w : World} (hr : Region.ready md ops listed = []) (h : Q .normal a w) :
    ∀ fuel, wpAnyLast P md ops Q S ds fuel listed a w
  | 0 => ⟨hr, h⟩
  | _ + 1 => ⟨fun _ => h, by rw [hr]; simp⟩
theorem wp_region_last {id : Nat} {a : Act} {w : World} (hm : P.follows .mixedOrders = true)
    (h : wpAnyLast P .any ops Q S ds ops.size (Array.replicate ops.size false) a { w with drawn := w.drawn + 1 }) : (Code.region id ops true).wp P Q a w :=
  wp_region_any hm (wpAny_of_last _ _ _ _ h)
end
section
variable {P : Program} {ops : Array Oper} {Q : Exit → Act → World → Prop} {md : Region.Mode} {S : World → Prop} {ds : List Nat}
def AllReadyL (P : Program) (md : Region.Mode) (ops : Array Oper) (Q : Exit → Act → World → Prop) (S : World → Prop) (ds : List Nat) (fuel : Nat) (listed : Array Bool) (a : Act) (w : World) (rs : List Nat) : Prop :=
  ∀ i ∈ rs, wpOp P ops Q i (fun a' w' => (i ∉ ds → S w → S w') ∧ wpAnyLast P md ops Q S ds fuel (listed.setIfInBounds i true) a' w') a w
theorem AllReadyL.nil {fuel : Nat} {listed : Array Bool} {a : Act} {w : World} : AllReadyL P md ops Q S ds fuel listed a w [] := fun _ h => by cases h
theorem AllReadyL.cons {fuel : Nat} {listed : Array Bool} {a : Act} {w : World} {i : Nat} {o : Oper} {rs : List Nat} (ho : ops[i]? = some o) (hd : i ∉ ds)
    (h : ∀ K' : Act → World → Prop, Shut (∀ a w, S w → (S w → wpAnyLast P md ops Q S ds fuel (listed.setIfInBounds i true) a w) → K' a w) → if Region.wanted o (yielded ops a.tmps) = true then Oper.wp P o a w K' Q else K' (a.put o.dst undef) w)
    (hs : AllReadyL P md ops Q S ds fuel listed a w rs) : AllReadyL P md ops Q S ds fuel listed a w (i :: rs) := fun j hj => by
  rcases List.mem_cons.1 hj with rfl | hj
  · exact wpOp_step ho (fun K' hK => h K' (fun a w hS hW => hK a w ⟨fun _ _ => hS, hW hS⟩))
  · exact hs j hj
theorem wpAnyLast_ready {rs : List Nat} {fuel : Nat} {listed : Array Bool} {a : Act} {w : World} (hr : Region.ready md ops listed = rs) (hne : rs ≠ [])
    (h : AllReadyL P md ops Q S ds fuel listed a w rs) : wpAnyLast P md ops Q S ds (fuel + 1) listed a w := wpAnyLast_all hr hne h
theorem start_ {id n : Nat} {a : Act} {w : World} (l : Array Bool) (hm : P.follows .mixedOrders = true) (hn : ops.size = n) (hl : Array.replicate n false = l) (hS : S w.drew)
    (h : S w.drew → wpAnyLast P .any ops Q S ds n l a w.drew) : (Code.region id ops true).wp P Q a w := by
  subst hn
  subst hl
  exact wp_region_last hm (h hS)
def takeB (md : Region.Mode) (ops : Array Oper) (ds : List Nat) (l l' : Array Bool) (i : Nat) : Bool :=
  Region.noSelect ops && Region.free md ops l i && (Region.ready md ops l).contains i && Region.closedB md ops l && Region.lastB md ops l ds i && (l.setIfInBounds i true == l')
theorem take_ {i : Nat} {N : Option Tmp} {oi : Oper} {v : Value} {fuel : Nat} {l : Array Bool} {a : Act} {w : World} (l' : Array Bool) (hi : ops[i]? = some oi) (hN : oi.dst = N) (hc : takeB md ops ds l l' i = true)
    (hQ : ∀ c a w, Q (.panic c) (a.put oi.dst v) w → Q (.panic c) a w) (hy : YieldsIf P ops S oi v a) (hS : S w) {a' : Act} (ha : a.put N v = a')
    (h : wpAnyLast P md ops Q S ds fuel l' a' w) : wpAnyLast P md ops Q S ds (fuel + 1) l a w := by
  subst ha
  subst hN
  simp only [takeB, Bool.and_eq_true, beq_iff_eq] at hc
  obtain ⟨⟨⟨⟨⟨h1, h2⟩, h3⟩, h4⟩, h5⟩, h6⟩ := hc
  subst h6
  exact wpAnyLast_take hi h1 h2 h3 h4 h5 hQ hy hS h
def anyB (md : Region.Mode) (ops : Array Oper) (l l' : Array Bool) (i : Nat) : Bool :=
  Region.noSelect ops && Region.free md ops l i && (Region.ready md ops l).contains i && (l.setIfInBounds i true == l')
theorem pure_ {i : Nat} {N : Option Tmp} {oi : Oper} {v : Value} {fuel : Nat} {l : Array Bool} {a : Act} {w : World} (l' : Array Bool) (hi : ops[i]? = some oi) (hN : oi.dst = N) (hc : anyB md ops l l' i = true)
    (hQ : ∀ c a w, Q (.panic c) (a.put oi.dst v) w → Q (.panic c) a w) (hy : Yields P ops oi v a) {a' : Act} (ha : a.put N v = a')
    (h : wpAnyLast P md ops Q S ds fuel l' a' w) : wpAnyLast P md ops Q S ds (fuel + 1) l a w := by
  subst ha
  subst hN
  simp only [anyB, Bool.and_eq_true, beq_iff_eq] at hc
  obtain ⟨⟨⟨h1, h2⟩, h3⟩, h6⟩ := hc
  subst h6
  exact wpAnyLast_any hi (Region.noSelect_spec h1) hQ fuel l a w (Region.free_spec hi h2) (by simpa using h3) hy h
def readyB (md : Region.Mode) (ops : Array Oper) (l l' : Array Bool) (i : Nat) : Bool := (Region.ready md ops l == [i]) && (l.setIfInBounds i true == l')
theorem one_ {i : Nat} {N : Option Tmp} {oi : Oper} {fuel : Nat} {l : Array Bool} {a : Act} {w : World} (l' : Array Bool) (hi : ops[i]? = some oi) (hN : oi.dst = N) (hc : readyB md ops l l' i = true) (hd : i ∉ ds)
    (h : ∀ K : Act → World → Prop, Shut (∀ a' w', S w' → (S w' → wpAnyLast P md ops Q S ds fuel l' a' w') → K a' w') → if Region.wanted oi (yielded ops a.tmps) = true then Oper.wp P oi a w K Q else K (a.put N undef) w) :
    wpAnyLast P md ops Q S ds (fuel + 1) l a w := by
  subst hN
  simp only [readyB, Bool.and_eq_true, beq_iff_eq] at hc
  obtain ⟨h1, h2⟩ := hc
  subst h2
  exact wpAnyLast_ready h1 (by simp) (AllReadyL.cons hi hd (fun K hK => h K hK) AllReadyL.nil)
theorem done_ {l : Array Bool} {a : Act} {w : World} {n : Nat} (hr : (Region.ready md ops l == []) = true) (h : Q .normal a w) : wpAnyLast P md ops Q S ds n l a w := wpAnyLast_done (by simpa using hr) h n
theorem norm_ {fuel : Nat} {l : Array Bool} {a a' : Act} {w : World} (ha : a = a') (h : wpAnyLast P md ops Q S ds fuel l a' w) : wpAnyLast P md ops Q S ds fuel l a w := by
  subst ha
  exact h
theorem call_ {oi : Oper} {N : Option Tmp} {a : Act} {w : World} {K : Act → World → Prop} (f : FuncId) (args : Array Value) (hw : Region.wanted oi (yielded ops a.tmps) = true) (hN : oi.dst = N) (hrun : (execOp a.eval oi).run P w = .ok (.enter f args) w)
    (h : Calls P f args w fun e w' => ∃ v, e = .returned v ∧ K (a.put N v) w') : if Region.wanted oi (yielded ops a.tmps) = true then Oper.wp P oi a w K Q else K (a.put N undef) w := by
  rw [if_pos hw]
  subst hN
  unfold Oper.wp
  rw [hrun, Oper.upon_enter]
  refine h.mono fun e w'' hh => ?_
  obtain ⟨v, rfl, hk⟩ := hh
  exact hk
theorem enters_ {f : FuncId} {fn : Func} (hf : P.funcs[f]? = some fn) (hname : (fn.name == "runtime.NumGoroutine") = false) (hb : fn.body.isSome = true) (args : Array Value) (w : World) : (callFunc f args).run P w = .ok (.enter f args) w := by
  have h1 : fn.name ≠ "runtime.NumGoroutine" := by simpa using hname
  obtain ⟨c, hc⟩ := Option.isSome_iff_exists.1 hb
  simp [callFunc, hf, h1, hc]
theorem goes_ {oi : Oper} {N : Option Tmp} {a : Act} {w : World} {K : Act → World → Prop} {f : FuncId} {fn : Func} {as_ : Array Operand} {ts : Array TypeId} (hf : P.funcs[f]? = some fn) (hname : (fn.name == "runtime.NumGoroutine") = false) (hb : fn.body.isSome = true) (args : Array Value)
    (hw : Region.wanted oi (yielded ops a.tmps) = true) (hN : oi.dst = N) (hop : oi.op = .call { callee := .value (.func f), args := as_, argTypes := ts }) (hargs : as_.map a.eval = args)
    (h : Calls P f args w fun e w' => ∃ v, e = .returned v ∧ K (a.put N v) w') : if Region.wanted oi (yielded ops a.tmps) = true then Oper.wp P oi a w K Q else K (a.put N undef) w := by
  refine call_ f args hw hN ?_ h
  have he := enters_ hf hname hb args w
  unfold execOp
  simp [hop, resolve, Deferred.ofValue, invoke, Act.eval, hargs, he]
theorem i64_w (n : Int) : IntKind.i64.wrap n = Go.RowKit.wrap64 n := by unfold Go.RowKit.wrap64; exact IntKind.wrap_i64 n
theorem i32_w (n : Int) : IntKind.i32.wrap n = Go.RowKit.wrap32 n := by unfold Go.RowKit.wrap32; exact IntKind.wrap_i32 n
end
end Go.Proofs.YtckfkbmefdmedaaW.PrintLast
namespace Go.Proofs.YtckfkbmefdmedaaW.PrintLast
open Go.Proofs.YtckfkbmefdmedaaW.PrintWords (Aside0)
section
variable {md : Region.Mode} {ops : Array Oper} {T : Bool × List (List Nat × List Nat)} {l l' li lj lk : Array Bool} {ds : List Nat} {i j k : Nat}
def lastW (T : List (List Nat × List Nat)) (B : List Nat) (l : List Bool) (ds : List Nat) (i : Nat) : Bool := ds.all fun d => l.getD d true || (decide (d < T.length) && (B.getD d 0).testBit i)
end
end Go.Proofs.YtckfkbmefdmedaaW.PrintLast
namespace Go.Proofs.YtckfkbmefdmedaaW.PrintWords
open Go.RowKit
namespace Kd
def tag {α : Type} (f : Nat → Nat) (d : Kd α) : Kd (α × Nat) where
  sz := d.sz
  E := d.E
  K := fun w x cs => d.K w x.1 cs
  M := fun w base ok x cs => d.M w base (fun k => ok k ∧ f k = x.2) x.1 cs
  K_len := fun h => d.K_len h
  K_one := fun h => d.K_one h
  K_below := fun hb h => d.K_below hb h
  K_of_M := fun h => d.K_of_M h
  M_mono := fun hok h => d.M_mono (fun k hk => ⟨hok k hk.1, hk.2⟩) h
  M_bound := fun h => d.M_mono (fun _ hk => ⟨⟨hk.1.1, hk.2⟩, hk.1.2⟩) (d.M_bound h)
  M_move := fun hm h => d.M_move (fun k hk => hm k hk.1) h
  M_lower := fun hb h => d.M_lower hb h
def raw (sz : Nat) : Kd (List Value) where
  sz := sz
  E := []
  K := fun _ x cs => cs = x ∧ cs.length = sz ∧ ∀ u ∈ cs, u.oneCell' = true
  M := fun _ _ _ x cs => cs = x ∧ cs.length = sz ∧ ∀ u ∈ cs, u.oneCell' = true
  K_len := fun h => h.2.1
  K_one := fun h => h.2.2
  K_below := fun _ h => h
  K_of_M := fun h => h
  M_mono := fun _ h => h
  M_bound := fun h => h
  M_move := fun _ h => h
  M_lower := fun _ h => h
def S {α : Type} (d : Kd α) (e : Nat) (w : World) (base : Nat) (ok : Nat → Prop) (v : Value) (xs : List α) : Prop := ∃ f, (tag f d).R e w base ok v xs.zipIdx
section
variable {α β : Type} {d : Kd α} {d' : Kd β} {e e' : Nat} {w w1 W : World} {base b : Nat} {ok ok' okv oku : Nat → Prop} {u v : Value} {xs : List α} {ys : List β}
end
section
variable {α β : Type} {d : Kd α} {d' : Kd β} {e e' g : Nat} {w w1 W : World} {base b : Nat} {ok ok' okv oku : Nat → Prop} {u v : Value} {xs : List α} {ys : List β}
end
section
variable {P : Program} {ops : Array Oper} {rest : List Oper} {o : Oper} {a : Act} {Q : Exit → Act → World → Prop} {Kc : Act → World → Prop} {α : Type}
end
def gap {α : Type} (f : Nat → Nat) (d : Kd α) (i : Nat) (c : List Value) : Kd (α × Nat) where
  sz := d.sz
  E := d.E
  K := fun w x cs => (x.2 = i → cs = c ∧ cs.length = d.sz ∧ ∀ u ∈ cs, u.oneCell' = true) ∧ (x.2 ≠ i → d.K w x.1 cs)
  M := fun w base ok x cs => (x.2 = i → cs = c ∧ cs.length = d.sz ∧ ∀ u ∈ cs, u.oneCell' = true) ∧ (x.2 ≠ i → d.M w base (fun k => ok k ∧ f k = x.2) x.1 cs)
  K_len := fun {w x cs} h => by
    by_cases hx : x.2 = i
    · exact (h.1 hx).2.1
    · exact d.K_len (h.2 hx)
  K_one := fun {w x cs} h => by
    by_cases hx : x.2 = i
    · exact (h.1 hx).2.2
    · exact d.K_one (h.2 hx)
  K_below := fun hb h => ⟨h.1, fun hx => d.K_below hb (h.2 hx)⟩
  K_of_M := fun h => ⟨h.1, fun hx => d.K_of_M (h.2 hx)⟩
  M_mono := fun hok h => ⟨h.1, fun hx => d.M_mono (fun k hk => ⟨hok k hk.1, hk.2⟩) (h.2 hx)⟩
  M_bound := fun h => ⟨h.1, fun hx => d.M_mono (fun _ hk => ⟨⟨hk.1.1, hk.2⟩, hk.1.2⟩) (d.M_bound (h.2 hx))⟩
  M_move := fun hm h => ⟨h.1, fun hx => d.M_move (fun k hk => hm k hk.1) (h.2 hx)⟩
  M_lower := fun hb h => ⟨h.1, fun hx => d.M_lower hb (h.2 hx)⟩
def H {α : Type} (d : Kd α) (e : Nat) (w : World) (base : Nat) (ok : Nat → Prop) (v : Value) (xs : List α) (i : Int) (oki : Nat → Prop) (c : List Value) : Prop :=
  (∀ k, oki k → ok k) ∧ ∃ f, (gap f d i.toNat c).R e w base (fun k => ok k ∧ ¬ oki k) v xs.zipIdx
section
variable {α β : Type} {d : Kd α} {e e' g n cap : Nat} {w w1 W : World} {base : Nat} {ok ok' oki okp : Nat → Prop} {u v : Value} {xs : List α} {i : Int} {c : List Value}
end
section
variable {P : Program} {ops : Array Oper} {rest : List Oper} {o : Oper} {a : Act} {Q : Exit → Act → World → Prop} {α : Type}
end
end Kd
end Go.Proofs.YtckfkbmefdmedaaW.PrintWords
namespace Go.Proofs.YtckfkbmefdmedaaW.PrintWords
open Go.RowKit
namespace Kd
structure Heap {α : Type} (d : Kd α) : Prop where
  K : ∀ {w w1 : World} {x : α} {cs : List Value}, (∀ k, k < w.heap.size → w1.heap[k]? = w.heap[k]?) → d.K w x cs → d.K w1 x cs
theorem cell_heap {w w1 : World} (hb : ∀ k, k < w.heap.size → w1.heap[k]? = w.heap[k]?) {a : Addr} {v : Value} (h : w.cell? a = some v) : w1.cell? a = some v := by
  have := hb a.block (World.block_lt_of_cell? w a h)
  simpa [World.cell?, this] using h
theorem Heap.C {α : Type} {d : Kd α} (hd : Heap d) {w w1 : World} {A : Option Addr} {n : Nat} {xs : List α} (hb : ∀ k, k < w.heap.size → w1.heap[k]? = w.heap[k]?) (h : d.C w A n xs) : d.C w1 A n xs :=
  ⟨h.1, h.2.1, fun hn => by
    obtain ⟨ad, e, hc⟩ := h.2.2 hn
    refine ⟨ad, e, fun j p hj => ?_⟩
    obtain ⟨c, hs, hr, hcell⟩ := hc j p hj
    exact ⟨c, hs, hd.K hb hr, fun i u hu => cell_heap hb (hcell i u hu)⟩⟩
section
variable {α : Type} {d : Kd α} {e base g n c : Nat} {ok : Nat → Prop} {w w0 W : World} {A : Option Addr} {xs : List α}
end
end Kd
end Go.Proofs.YtckfkbmefdmedaaW.PrintWords
namespace Go.Proofs.YtckfkbmefdmedaaW.PrintWords
open Go.RowKit
def Kept (w W : World) (S : Nat → Prop) : Prop := w.heap.size ≤ W.heap.size ∧ ∀ i, i < w.heap.size → ¬ S i → W.heap[i]? = w.heap[i]?
section
variable {w W W2 : World} {S S2 S' : Nat → Prop}
theorem Kept.refl (w : World) (S : Nat → Prop) : Kept w w S := ⟨Nat.le_refl _, fun _ _ _ => rfl⟩
theorem Kept.of_below (h : Below w.heap.size w W) (S : Nat → Prop) : Kept w W S := ⟨h.size, fun i hi _ => h.block i hi⟩
theorem Kept.mono (h : Kept w W S) (hs : ∀ k, S k → S' k) : Kept w W S' := ⟨h.1, fun i hi hn => h.2 i hi (fun hk => hn (hs i hk))⟩
theorem Kept.then_ (h : Kept w W S) (k : Kept W W2 S2) (hs : ∀ k, S2 k → S k ∨ w.heap.size ≤ k) : Kept w W2 S :=
  ⟨Nat.le_trans h.1 k.1, fun i hi hn => (k.2 i (Nat.lt_of_lt_of_le hi h.1) (fun h2 => (hs i h2).elim hn (fun h3 => by omega))).trans (h.2 i hi hn)⟩
theorem Kept.below (h : Kept w W S) (hb : Below W.heap.size W W2) : Kept w W2 S := h.then_ (Kept.of_below hb (fun _ => False)) (fun _ hk => hk.elim)
theorem Kept.alloc (h : Kept w W S) (o : Obj) : Kept w (W.alloc o) S := h.below (below_alloc (Below.refl _ _) o)
theorem Kept.drew (h : Kept w W S) : Kept w W.drew S := h
theorem Kept.drewN (h : Kept w W S) (m : Nat) : Kept w (W.drewN m) S := h
theorem Kept.setCell (h : Kept w W S) {p : Addr} (hp : S p.block ∨ w.heap.size ≤ p.block) (u : Value) : Kept w (W.setCell p u) S :=
  h.then_ (S2 := fun k => k = p.block) ⟨by simp [World.setCell], fun i _ hn => Below.heap_setCell W p u i hn⟩ (fun k hk => by rw [hk]; exact hp)
theorem Kept.keep {g : Nat} (h : KeepBut w W g none) (k : Kept W W2 S2) (hs : ∀ k, S2 k → w.heap.size ≤ k) : KeepBut w W2 g none :=
  ⟨Nat.le_trans h.1 k.1, fun i hi hg hr => (k.2 i (Nat.lt_of_lt_of_le hi h.1) (fun h2 => by have := hs i h2; omega)).trans (h.2 i hi hg hr)⟩
end
namespace Kd
section
variable {α : Type} {d : Kd α} {e base n c : Nat} {ok oki S S2 : Nat → Prop} {w w0 W W1 W2 : World} {v : Value} {A : Option Addr} {xs : List α} {i : Int} {cs : List Value}
end
end Kd
end Go.Proofs.YtckfkbmefdmedaaW.PrintWords
namespace Go.Proofs.YtckfkbmefdmedaaW.PrintWords
open Go.RowKit
def Foot (P : World → Prop) (W : World) (ok : Nat → Prop) : Prop := ∀ W' : World, (∀ k, ok k → k < W.heap.size → W'.heap[k]? = W.heap[k]?) → P W'
theorem heap_lt {W W1 : World} {k : Nat} (h : W1.heap[k]? = W.heap[k]?) (hlt : k < W.heap.size) : k < W1.heap.size := by
  rw [Array.getElem?_eq_getElem hlt] at h
  exact (Array.getElem?_eq_some_iff.1 h).1
namespace Foot
variable {P Q : World → Prop} {W W1 : World} {ok ok' : Nat → Prop}
theorem mono (h : Foot P W ok) (hok : ∀ k, ok k → ok' k) : Foot P W ok' := fun W' hW => h W' (fun k hk hlt => hW k (hok k hk) hlt)
theorem step (h : Foot P W ok) (hm : ∀ k, ok k → k < W.heap.size → W1.heap[k]? = W.heap[k]?) : Foot P W1 ok := fun W' hW => h W' (fun k hk hlt => (hW k hk (heap_lt (hm k hk hlt) hlt)).trans (hm k hk hlt))
end Foot
namespace Kd
def F {α : Type} (d : Kd α) (W : World) (ok : Nat → Prop) (A : Option Addr) (n : Nat) (xs : List α) : Prop := Foot (fun W => d.C W A n xs) W ok
def FK {α : Type} (d : Kd α) (W : World) (ok : Nat → Prop) (x : α) (c : List Value) : Prop := Foot (fun W => d.K W x c) W ok
section
variable {α β : Type} {d : Kd α} {e base n n' cc g N : Nat} {ok ok' okp S : Nat → Prop} {w w0 w1 W W1 : World} {A A' : Option Addr} {u v v1 : Value} {xs : List α} {xs' : List β} {d' : Kd β} {x : α} {c : List Value}
end
end Kd
end Go.Proofs.YtckfkbmefdmedaaW.PrintWords
namespace Go.Proofs.YtckfkbmefdmedaaW.PrintWords
open Go.RowKit
namespace Kd
section
variable {α : Type} {d : Kd α} {e base n cc g : Nat} {ok ok' okp S : Nat → Prop} {w w1 W W1 : World} {A : Option Addr} {u v v1 : Value} {xs : List α} {x : α} {c : List Value}
def N {α : Type} (d : Kd α) (e : Nat) (w : World) (base : Nat) (ok : Nat → Prop) (v : Value) (xs : List α) : Prop :=
  (∀ k, v.ownBlock = some k → ok k) ∧ ∃ rows : List (List Value), rows.length = xs.length ∧ (raw d.sz).R e w base (fun k => some k = v.ownBlock) v rows ∧ ∀ (j : Nat) (x : α) (c : List Value), xs[j]? = some x → rows[j]? = some c → FK d w (fun k => ok k ∧ some k ≠ v.ownBlock) x c
end
end Kd
end Go.Proofs.YtckfkbmefdmedaaW.PrintWords
namespace Go.Proofs.YtckfkbmefdmedaaW.PrintWords
theorem Reps.one {α : Type} {R : α → List Value → Prop} {ps : List α} {cs : List Value} {p : α} {v : Value} (hp : R p [v]) (h : Reps R 1 ps cs) : Reps R 1 (p :: ps) (v :: cs) := by
  refine ⟨by simp [h.1], fun j q hq => ?_⟩
  cases j with
  | zero =>
    simp only [List.getElem?_cons_zero, Option.some.injEq] at hq
    subst hq
    simpa using hp
  | succ j =>
    simp only [List.getElem?_cons_succ] at hq
    have h1 := h.2 j q hq
    simpa [Nat.mul_one] using h1
theorem Reps.front {α : Type} {R : α → List Value → Prop} {size : Nat} {ps : List α} {cs c all : List Value} {p : α} (hp : R p c) (hc : c.length = size) (h : Reps R size ps cs) (ha : c ++ cs = all) : Reps R size (p :: ps) all := by
  subst ha
  refine ⟨by rw [List.length_append, hc, h.1, List.length_cons, Nat.succ_mul, Nat.add_comm], fun j q hq => ?_⟩
  cases j with
  | zero =>
    simp only [List.getElem?_cons_zero, Option.some.injEq] at hq
    subst hq
    rw [Nat.zero_mul, List.drop_zero, List.take_append_of_le_length (by omega), List.take_of_length_le (by omega)]
    exact hp
  | succ j =>
    simp only [List.getElem?_cons_succ] at hq
    have h1 := h.2 j q hq
    rw [Nat.succ_mul, List.drop_append, List.drop_of_length_le (by rw [hc]; exact Nat.le_add_left _ _), List.nil_append, hc, Nat.add_sub_cancel]
    exact h1
theorem Reps.c2 {α : Type} {R : α → List Value → Prop} {ps : List α} {cs : List Value} {p : α} {va vb : Value} (hp : R p [va, vb]) (h : Reps R 2 ps cs) : Reps R 2 (p :: ps) (va :: vb :: cs) := Reps.front hp rfl h rfl
theorem Reps.c3 {α : Type} {R : α → List Value → Prop} {ps : List α} {cs : List Value} {p : α} {va vb vc : Value} (hp : R p [va, vb, vc]) (h : Reps R 3 ps cs) : Reps R 3 (p :: ps) (va :: vb :: vc :: cs) := Reps.front hp rfl h rfl
theorem Reps.c4 {α : Type} {R : α → List Value → Prop} {ps : List α} {cs : List Value} {p : α} {va vb vc vd : Value} (hp : R p [va, vb, vc, vd]) (h : Reps R 4 ps cs) : Reps R 4 (p :: ps) (va :: vb :: vc :: vd :: cs) := Reps.front hp rfl h rfl
theorem Reps.c5 {α : Type} {R : α → List Value → Prop} {ps : List α} {cs : List Value} {p : α} {va vb vc vd ve : Value} (hp : R p [va, vb, vc, vd, ve]) (h : Reps R 5 ps cs) : Reps R 5 (p :: ps) (va :: vb :: vc :: vd :: ve :: cs) := Reps.front hp rfl h rfl
theorem Reps.c6 {α : Type} {R : α → List Value → Prop} {ps : List α} {cs : List Value} {p : α} {va vb vc vd ve vf : Value} (hp : R p [va, vb, vc, vd, ve, vf]) (h : Reps R 6 ps cs) : Reps R 6 (p :: ps) (va :: vb :: vc :: vd :: ve :: vf :: cs) := Reps.front hp rfl h rfl
theorem Reps.c7 {α : Type} {R : α → List Value → Prop} {ps : List α} {cs : List Value} {p : α} {va vb vc vd ve vf vg : Value} (hp : R p [va, vb, vc, vd, ve, vf, vg]) (h : Reps R 7 ps cs) : Reps R 7 (p :: ps) (va :: vb :: vc :: vd :: ve :: vf :: vg :: cs) := Reps.front hp rfl h rfl
theorem Reps.c8 {α : Type} {R : α → List Value → Prop} {ps : List α} {cs : List Value} {p : α} {va vb vc vd ve vf vg vh : Value} (hp : R p [va, vb, vc, vd, ve, vf, vg, vh]) (h : Reps R 8 ps cs) : Reps R 8 (p :: ps) (va :: vb :: vc :: vd :: ve :: vf :: vg :: vh :: cs) := Reps.front hp rfl h rfl
end Go.Proofs.YtckfkbmefdmedaaW.PrintWords
namespace Go.Proofs.YtckfkbmefdmedaaW.PrintMore
open Go.RowKit Go.Proofs.YtckfkbmefdmedaaW.PrintWords
namespace Kd
open Go.Proofs.YtckfkbmefdmedaaW.PrintWords.Kd
end Kd
namespace Kd
open Go.Proofs.YtckfkbmefdmedaaW.PrintWords.Kd
section
variable {α : Type} {d : Kd α} {e base g N : Nat} {ok : Nat → Prop} {W w1 : World} {u v : Value} {xs : List α}
end
end Kd
theorem max2_int (k k' : IntKind) (x y : Int) : Builtin.max2 (.int k x) (.int k' y) = pure (.int k (if x < y then y else x)) := by simp only [Builtin.max2, gt_iff_lt]
theorem min2_int (k k' : IntKind) (x y : Int) : Builtin.min2 (.int k x) (.int k' y) = pure (.int k (if y < x then y else x)) := by simp only [Builtin.min2]
theorem max_two (ats : Array TypeId) (ty : TypeId) (a b : Value) : Builtin.max_ ats ty #[a, b] = (Builtin.max2 a b >>= fun s => pure s) := by simp only [Builtin.max_, List.foldlM_cons, List.foldlM_nil]
theorem min_two (ats : Array TypeId) (ty : TypeId) (a b : Value) : Builtin.min_ ats ty #[a, b] = (Builtin.min2 a b >>= fun s => pure s) := by simp only [Builtin.min_, List.foldlM_cons, List.foldlM_nil]
theorem max_three (ats : Array TypeId) (ty : TypeId) (a b c : Value) : Builtin.max_ ats ty #[a, b, c] = (Builtin.max2 a b >>= fun s => Builtin.max2 s c >>= fun s => pure s) := by simp only [Builtin.max_, List.foldlM_cons, List.foldlM_nil]
theorem min_three (ats : Array TypeId) (ty : TypeId) (a b c : Value) : Builtin.min_ ats ty #[a, b, c] = (Builtin.min2 a b >>= fun s => Builtin.min2 s c >>= fun s => pure s) := by simp only [Builtin.min_, List.foldlM_cons, List.foldlM_nil]
theorem max_four (ats : Array TypeId) (ty : TypeId) (a b c d : Value) : Builtin.max_ ats ty #[a, b, c, d] = (Builtin.max2 a b >>= fun s => Builtin.max2 s c >>= fun s => Builtin.max2 s d >>= fun s => pure s) := by simp only [Builtin.max_, List.foldlM_cons, List.foldlM_nil]
theorem min_four (ats : Array TypeId) (ty : TypeId) (a b c d : Value) : Builtin.min_ ats ty #[a, b, c, d] = (Builtin.min2 a b >>= fun s => Builtin.min2 s c >>= fun s => Builtin.min2 s d >>= fun s => pure s) := by simp only [Builtin.min_, List.foldlM_cons, List.foldlM_nil]
end Go.Proofs.YtckfkbmefdmedaaW.PrintMore
namespace Go.Proofs.YtckfkbmefdmedaaW.PrintWords
open Go.RowKit
section
variable {P : Program} {ops : Array Oper} {rest : List Oper} {o : Oper} {a : Act} {Q : Exit → Act → World → Prop} {W : World}
end
namespace Kd
section
variable {α : Type} {d : Kd α} {e base : Nat} {ok : Nat → Prop} {W w1 : World} {v : Value} {xs : List α}
end
section
variable {α : Type} {d : Kd α} {e base g n cap : Nat} {ok oki okp : Nat → Prop} {W : World} {xs : List α} {i : Int} {c : List Value}
end
section
variable {α : Type} {d : Kd α} {e base b b' g N : Nat} {ok ok1 : Nat → Prop} {W W2 w1 : World} {u v : Value} {xs ys : List α} {S : Nat → Prop}
end
end Kd
end Go.Proofs.YtckfkbmefdmedaaW.PrintWords
namespace Go.Proofs.YtckfkbmefdmedaaW.PrintWords
open Go.RowKit
namespace Kd
section
variable {α β : Type} {d : Kd α} {e base base' n m c g N' lo hi : Nat} {ok ok' S : Nat → Prop} {w W w1 : World} {A : Option Addr} {ad : Addr} {u v v1 : Value} {xs : List α}
end
end Kd
end Go.Proofs.YtckfkbmefdmedaaW.PrintWords
namespace Go.Proofs.Ytckfkbmefdmedaa.Q
open Go.RowKit Go.Proofs.YtckfkbmefdmedaaW.PrintWords Go.Proofs.YtckfkbmefdmedaaW.PrintLast Go.Proofs.YtckfkbmefdmedaaW.PrintMore
attribute [local go_sem] max2_int min2_int max_two min_two max_three min_three max_four min_four   -- for this text's walks alone
set_option linter.unusedVariables false
set_option linter.unusedSimpArgs false
def errW : Option Int → Value
 | none => .nilIface
 | some c => .iface 0 (.int .i64 c)
theorem errW_none : errW none = .nilIface := rfl
theorem errW_some (c : Int) : errW (some c) = .iface 0 (.int .i64 c) := rfl
structure S62 where
 f0 : Int
 f1 : Int
 f2 : Int
 f3 : ByteArray
 f4 : (List Int)
def z62 : S62 := ⟨(0 : Int), (0 : Int), (0 : Int), (⟨#[]⟩ : ByteArray), ([] : List Int)⟩
def k62 : Kd S62 := Kd.iso (Kd.pair (Kd.int .u8) (Kd.pair (Kd.int .i8) (Kd.pair (Kd.int .i8) (Kd.pair Kd.string (Kd.slice 5 (Kd.int .u8)))))) (fun x : S62 => (x.f0, x.f1, x.f2, x.f3, x.f4))
theorem k62_open {w : World} {x : S62} {cs : List Value} (h : k62.K w x cs) : ∃ A4 c4, cs = [.int .u8 x.f0, .int .i8 x.f1, .int .i8 x.f2, .string x.f3, .slice A4 x.f4.length c4] ∧ x.f4.length ≤ c4 ∧ (Kd.int .u8).C w A4 x.f4.length x.f4 := by
 obtain ⟨_, _, rfl, rfl, ⟨_, _, rfl, rfl, ⟨_, _, rfl, rfl, ⟨_, _, rfl, rfl, ⟨A4, c4, rfl, l4, g4⟩⟩⟩⟩⟩ := h
 exact ⟨A4, c4, rfl, l4, g4⟩
def rd_T62 (xs : List S62) (i : Int) : S62 := xs.getD i.toNat z62
theorem at_T62 {w : World} {A : Option Addr} {n : Nat} {xs : List S62} (h : Kd.C k62 w A n xs) (i : Int) (h0 : 0 ≤ i) (h1 : i < n) : ∃ ad A4 c4, A = some ad ∧ w.cell? (ad.add (i.toNat * 5)) = some (.int .u8 (rd_T62 xs i).f0) ∧ w.cell? ⟨(ad.add (i.toNat * 5)).block, (ad.add (i.toNat * 5)).off + 1, none⟩ = some (.int .i8 (rd_T62 xs i).f1) ∧ w.cell? ⟨(ad.add (i.toNat * 5)).block, (ad.add (i.toNat * 5)).off + 2, none⟩ = some (.int .i8 (rd_T62 xs i).f2) ∧ w.cell? ⟨(ad.add (i.toNat * 5)).block, (ad.add (i.toNat * 5)).off + 3, none⟩ = some (.string (rd_T62 xs i).f3) ∧ w.cell? ⟨(ad.add (i.toNat * 5)).block, (ad.add (i.toNat * 5)).off + 4, none⟩ = some (.slice A4 (rd_T62 xs i).f4.length c4) ∧ (rd_T62 xs i).f4.length ≤ c4 ∧ (Kd.int .u8).C w A4 (rd_T62 xs i).f4.length (rd_T62 xs i).f4 := by
 obtain ⟨ad, c, e, _, hK, hc0⟩ := Kd.C_get h z62 i h0 h1
 have hc : ∀ j u, c[j]? = some u → w.cell? (ad.add (i.toNat * 5 + j)) = some u := hc0
 obtain ⟨A4, c4, rfl, l4, g4⟩ := k62_open hK
 exact ⟨ad, A4, c4, e, hc 0 _ rfl, by rw [← add_field _ _ 1 (by omega)]; exact hc 1 _ rfl, by rw [← add_field _ _ 2 (by omega)]; exact hc 2 _ rfl, by rw [← add_field _ _ 3 (by omega)]; exact hc 3 _ rfl, by rw [← add_field _ _ 4 (by omega)]; exact hc 4 _ rfl, l4, g4⟩
end Go.Proofs.Ytckfkbmefdmedaa.Q
namespace Go.Proofs
open Go.Shelf
def Try.lays212_ren : Go.Shelf.Ren := ⟨fun | 212 => 70 | 263 => 102 | 264 => 103 | n => n, fun | 46 => 121 | 51 => 115 | 146 => 164 | 53 => 126 | 148 => 166 | n => n, fun | n => n⟩
theorem Try.lays212 : Go.Proofs.Lays.n212 Try.prog Try.lays212_ren := {
  mixed := by kernel_rfl
  f212 := Try.func70.trans (congrArg some (by kernel_rfl))
  f263 := Try.func102.trans (congrArg some (by kernel_rfl))
  f264 := Try.func103.trans (congrArg some (by kernel_rfl))
  t46 := Try.underlying121
  a46 := Try.isAgg121
  z46 := Try.sizeOf121
  v46 := Try.zeroValue121
  t51 := Try.underlying115
  a51 := Try.isAgg115
  z51 := Try.sizeOf115
  v51 := Try.zeroValue115
  t53 := Try.underlying126
  a53 := Try.isAgg126
  z53 := Try.sizeOf126
  v53 := Try.zeroValue126
  t146 := Try.underlying164
  a146 := Try.isAgg164
  z146 := Try.sizeOf164
  v146 := Try.zeroValue164
  t148 := Try.underlying166
  a148 := Try.isAgg166
  z148 := Try.sizeOf166
  v148 := Try.zeroValue166 }
open Go.RowKit Go.Lib in
theorem Try.bits_Mul (x y : Nat) (hx : x < 18446744073709551616) (hy : y < 18446744073709551616) (w : World) :
    Calls Try.prog 70 #[.int .u64 x, .int .u64 y] w fun e w' => e = .returned (.tuple #[.int .u64 ((x * y / 18446744073709551616 : Nat) : Int), .int .u64 ((x * y % 18446744073709551616 : Nat) : Int)]) ∧ w' = w := Any.bits_Mul Try.lays212 x y hx hy w
def Try.lays105_ren : Go.Shelf.Ren := ⟨fun | 105 => 17 | 212 => 70 | 99 => 71 | 165 => 72 | 166 => 66 | 170 => 73 | 169 => 68 | 263 => 102 | 264 => 103 | 206 => 104 | 240 => 101 | 241 => 105 | 276 => 117 | 277 => 118 | n => n, fun | 9 => 9 | 3 => 3 | 4 => 4 | 20 => 20 | 0 => 0 | 46 => 121 | 109 => 122 | 5 => 5 | 72 => 113 | 76 => 118 | 51 => 115 | 146 => 164 | 53 => 126 | 148 => 166 | 70 => 111 | 37 => 42 | 75 => 117 | 127 => 163 | 164 => 183 | 80 => 53 | n => n, fun | n => n⟩
theorem Try.lays105 : Go.Proofs.Lays.n105 Try.prog Try.lays105_ren := {
  mixed := by kernel_rfl
  f99 := Try.func71.trans (congrArg some (by kernel_rfl))
  f105 := Try.func17.trans (congrArg some (by kernel_rfl))
  f165 := Try.func72.trans (congrArg some (by kernel_rfl))
  f166 := Try.func66.trans (congrArg some (by kernel_rfl))
  f169 := Try.func68.trans (congrArg some (by kernel_rfl))
  f170 := Try.func73.trans (congrArg some (by kernel_rfl))
  f206 := Try.func104.trans (congrArg some (by kernel_rfl))
  f212 := Try.func70.trans (congrArg some (by kernel_rfl))
  f240 := Try.func101.trans (congrArg some (by kernel_rfl))
  f241 := Try.func105.trans (congrArg some (by kernel_rfl))
  f263 := Try.func102.trans (congrArg some (by kernel_rfl))
  f264 := Try.func103.trans (congrArg some (by kernel_rfl))
  f276 := Try.func117.trans (congrArg some (by kernel_rfl))
  f277 := Try.func118.trans (congrArg some (by kernel_rfl))
  t0 := Try.underlying0
  a0 := Try.isAgg0
  z0 := Try.sizeOf0
  v0 := Try.zeroValue0
  t3 := Try.underlying3
  a3 := Try.isAgg3
  z3 := Try.sizeOf3
  v3 := Try.zeroValue3
  t4 := Try.underlying4
  a4 := Try.isAgg4
  z4 := Try.sizeOf4
  v4 := Try.zeroValue4
  t5 := Try.underlying5
  a5 := Try.isAgg5
  z5 := Try.sizeOf5
  v5 := Try.zeroValue5
  t9 := Try.underlying9
  a9 := Try.isAgg9
  z9 := Try.sizeOf9
  v9 := Try.zeroValue9
  t20 := Try.underlying20
  a20 := Try.isAgg20
  z20 := Try.sizeOf20
  v20 := Try.zeroValue20
  t37 := Try.underlying42
  a37 := Try.isAgg42
  z37 := Try.sizeOf42
  v37 := Try.zeroValue42
  t46 := Try.underlying121
  a46 := Try.isAgg121
  z46 := Try.sizeOf121
  v46 := Try.zeroValue121
  t51 := Try.underlying115
  a51 := Try.isAgg115
  z51 := Try.sizeOf115
  v51 := Try.zeroValue115
  t53 := Try.underlying126
  a53 := Try.isAgg126
  z53 := Try.sizeOf126
  v53 := Try.zeroValue126
  t70 := Try.underlying111
  a70 := Try.isAgg111
  z70 := Try.sizeOf111
  v70 := Try.zeroValue111
  t72 := Try.underlying113
  a72 := Try.isAgg113
  z72 := Try.sizeOf113
  v72 := Try.zeroValue113
  t75 := Try.underlying117
  a75 := Try.isAgg117
  z75 := Try.sizeOf117
  v75 := Try.zeroValue117
  t76 := Try.underlying118
  a76 := Try.isAgg118
  z76 := Try.sizeOf118
  v76 := Try.zeroValue118
  t109 := Try.underlying122
  a109 := Try.isAgg122
  z109 := Try.sizeOf122
  v109 := Try.zeroValue122
  t127 := Try.underlying163
  a127 := Try.isAgg163
  z127 := Try.sizeOf163
  v127 := Try.zeroValue163
  t146 := Try.underlying164
  a146 := Try.isAgg164
  z146 := Try.sizeOf164
  v146 := Try.zeroValue164
  t148 := Try.underlying166
  a148 := Try.isAgg166
  z148 := Try.sizeOf166
  v148 := Try.zeroValue166
  t164 := Try.underlying183
  a164 := Try.isAgg183
  z164 := Try.sizeOf183
  v164 := Try.zeroValue183 }
theorem Try.Builder_Extra_105 : Builder.Extra Try.prog Try.lays105_ren := {
  sizeBuilder := by kernel_rfl
  liesBuilder := by kernel_rfl
  t5 := Try.underlying5
  a5 := Try.isAgg5
  z5 := Try.sizeOf5
  v5 := Try.zeroValue5
  infoByte := by kernel_rfl
  cellsByte := by kernel_rfl
  sizeByte := by kernel_rfl
  neB5 := by decide }
open Go.RowKit Go.Lib in
theorem Try.strings_Repeat (s : ByteArray) (c : Nat) (w : World) (hc : c ≤ 9223372036854775807) (hlen : s.size * c ≤ 140737488355328) :
    Calls Try.prog 17 #[.string s, .int .i64 c] w fun e w' => e = .returned (.string ⟨(Lib.repeatL s.data.toList c).toArray⟩) ∧ Below w.heap.size w w' := Any.strings_Repeat Try.lays105 Try.Builder_Extra_105 s c w hc hlen
end Go.Proofs
namespace Go.Proofs.Ytckfkbmefdmedaa
open Go.RowKit
theorem hidI {p : Prop} (h : p) : Hid p := h
theorem below_step {w W w1 : World} (h : Below w.heap.size w W) (hb : Below W.heap.size W w1) : Below w.heap.size w w1 := h.trans (hb.mono h.size)
theorem below_new {w W : World} (h : Below w.heap.size w W) (o : Obj) : Below w.heap.size w (W.alloc o) := h.alloc h.size o
def Blk (w : World) (b : Nat) (cs : Array Value) (T : TypeId) : Prop := w.heap[b]? = some (.cells cs T (0, 0))
section
variable {w W : World} {b : Nat} {cs : Array Value} {T : TypeId}
theorem Blk.lt (h : Blk w b cs T) : b < w.heap.size := by
  by_cases g : b < w.heap.size
  · exact g
  · unfold Blk at h; rw [Array.getElem?_eq_none (by omega)] at h; cases h
theorem Blk.c (h : Blk w b cs T) : ∀ o, w.cell? ⟨b, o, none⟩ = cs[o]? := fun o => by
  unfold Blk at h; simp [World.cell?, h]
theorem Blk.f (h : Blk w b cs T) : ∀ o, w.frozen? ⟨b, o, none⟩ = false := fun o => by
  unfold Blk at h; simp [World.frozen?, h]
theorem Blk.new' (h : b = w.heap.size) : Blk (w.alloc (.cells cs T)) b cs T := by
  subst h; show (w.heap.push _)[w.heap.size]? = _; simp
theorem Blk.al (h : Blk w b cs T) (o : Obj) : Blk (w.alloc o) b cs T := by
  have := h.lt
  show (w.heap.push _)[b]? = _; rw [Array.getElem?_push, if_neg (by omega)]; exact h
theorem Blk.be (h : Blk W b cs T) (hb : Below W.heap.size W w) : Blk w b cs T := (hb.block b h.lt).trans h
theorem Blk.dr (h : Blk w b cs T) : Blk w.drew b cs T := h
theorem Blk.so (h : Blk w b cs T) {a : Addr} {v : Value} (hne : b ≠ a.block) : Blk (w.setCell a v) b cs T := by
  show (w.setCell a v).heap[b]? = _
  rw [Below.heap_setCell _ _ _ _ hne]; exact h
theorem Blk.of {cs' : Array Value} (h : Blk w b cs T) (e : cs = cs') : Blk w b cs' T := e ▸ h
end
theorem below_drewN {w W : World} (h : Below w.heap.size w W) (n : Nat) : Below w.heap.size w (W.drewN n) := ⟨h.os, h.tape, h.output, h.size, h.block⟩
theorem Blk.st {w : World} {b : Nat} {cs : Array Value} {T : TypeId} (h : Blk w b cs T) (o : Nat) (v : Value) : Blk (w.setCell ⟨b, o, none⟩ v) b (cs.setIfInBounds o v) T := by
  unfold Blk at h ⊢
  simp only [World.setCell, Array.getElem?_modify, if_true, h]
  rfl
theorem Blk.gb {w w1 : World} {b : Nat} {cs : Array Value} {T : TypeId} {r : Option Nat} (h : Blk w b cs T) (hg : w.grownBy w1 r) (hr : some b ≠ r) : Blk w1 b cs T := (hg.block b h.lt hr).trans h
end Go.Proofs.Ytckfkbmefdmedaa
namespace Go.Proofs.Kp
open Go.RowKit Go.Proofs.YtckfkbmefdmedaaW.PrintWords
set_option linter.unusedSimpArgs false
set_option linter.unusedVariables false
def plain {α : Type} (sz : Nat) (l : α → List Value) (hl : ∀ x, (l x).length = sz) (h1 : ∀ x, ∀ u ∈ l x, u.oneCell' = true) : Kd α where
  sz := sz
  E := []
  K := fun _ x cs => cs = l x
  M := fun _ _ _ x cs => cs = l x
  K_len := fun h => by rw [h]; exact hl _
  K_one := fun h u hu => by rw [h] at hu; exact h1 _ u hu
  K_below := fun _ h => h
  K_of_M := fun h => h
  M_mono := fun _ h => h
  M_bound := fun h => h
  M_move := fun _ h => h
  M_lower := fun _ h => h
section
variable {α : Type} {sz : Nat} {l : α → List Value} {hl : ∀ x, (l x).length = sz} {h1 : ∀ x, ∀ u ∈ l x, u.oneCell' = true}
theorem addr_eta {p : Addr} (h : p.spot = none) : p = ⟨p.block, p.off, none⟩ := by cases p; simp at h; subst h; rfl
theorem add_plain' (b o k : Nat) : (⟨b, o, none⟩ : Addr).add k = ⟨b, o + k, none⟩ := by unfold Addr.add; split <;> simp_all
theorem C_open {w : World} {A : Option Addr} {n : Nat} {xs : List α} (h : Kd.C (plain sz l hl h1) w A n xs) (hn : 0 < n) (hs : 0 < sz) :
    ∃ b off, A = some ⟨b, off, none⟩ ∧ ∀ (i : Nat) (hi : i < xs.length) (j : Nat) (v : Value), (l xs[i])[j]? = some v → w.cell? ⟨b, off + i * sz + j, none⟩ = some v := by
  obtain ⟨ad, rfl, hc⟩ := h.2.2 hn
  have hxn : 0 < xs.length := by rw [h.1]; exact hn
  have hsp : ad.spot = none := by
    obtain ⟨c, hcl, hcK, hcc⟩ := hc 0 xs[0] (List.getElem?_eq_getElem hxn)
    have := hcc 0 (c[0]'(by rw [hcl]; exact hs)) (List.getElem?_eq_getElem _)
    simpa [Addr.add] using Rk.spot_none this
  refine ⟨ad.block, ad.off, by rw [← addr_eta hsp], fun i hi j v hj => ?_⟩
  obtain ⟨c, hcl, hcK, hcc⟩ := hc i xs[i] (List.getElem?_eq_getElem hi)
  have e : c = l xs[i] := hcK
  subst e
  have := hcc j v hj
  rw [addr_eta hsp, add_plain'] at this
  rw [Nat.add_assoc]
  exact this
theorem flat_get (hl : ∀ x, (l x).length = sz) {i : Nat} {u : Value} {q : α} (hu : (l q)[i]? = some u) : ∀ (xs : List α) (j : Nat), xs[j]? = some q → (xs.flatMap l)[j * sz + i]? = some u
  | [], j, hj => by simp at hj
  | x :: xs, 0, hj => by
    simp only [List.getElem?_cons_zero, Option.some.injEq] at hj
    subst hj
    have hi : i < (l x).length := (List.getElem?_eq_some_iff.1 hu).1
    simp only [List.flatMap_cons, Nat.zero_mul, Nat.zero_add]
    rw [List.getElem?_append_left hi]
    exact hu
  | x :: xs, j + 1, hj => by
    simp only [List.getElem?_cons_succ] at hj
    have := flat_get hl hu xs j hj
    simp only [List.flatMap_cons]
    rw [List.getElem?_append_right (by rw [hl, Nat.succ_mul]; omega), hl]
    have e : (j + 1) * sz + i - sz = j * sz + i := by rw [Nat.succ_mul]; omega
    rw [e]
    exact this
end
end Go.Proofs.Kp
namespace Go.Proofs.Kq
open Go.RowKit
set_option linter.unusedSimpArgs false
set_option linter.unusedVariables false
theorem block_of_add (a : Addr) (n : Nat) : (a.add n).block = a.block := by unfold Addr.add; split <;> rfl
theorem add_of_add (a : Addr) (i j : Nat) : (a.add i).add j = a.add (i + j) := by
  unfold Addr.add
  by_cases hi : i = 0 <;> by_cases hj : j = 0 <;> simp [hi, hj, Nat.add_assoc]
def Reads (w : World) (B size : Nat) (A : Option Addr) (n : Nat) (xs : List Value) : Prop :=
  xs.length = n * size ∧ (0 < n → ∃ ad, A = some ad ∧ ad.block < B ∧ ∀ j u, xs[j]? = some u → w.cell? (ad.add j) = some u)
section
variable {w w' : World} {B B' size n : Nat} {A : Option Addr} {xs : List Value}
theorem Reads.at_ {k : Nat} (h : Reads w B 1 A n xs) (hk : k < n) : ∃ ad u, A = some ad ∧ ad.block < B ∧ xs[k]? = some u ∧ w.cell? (ad.add k) = some u := by
  obtain ⟨ad, e, hb, hc⟩ := h.2 (by omega)
  have hl : k < xs.length := by have := h.1; omega
  exact ⟨ad, xs[k], e, hb, List.getElem?_eq_getElem hl, hc k _ (List.getElem?_eq_getElem hl)⟩
theorem Reads.keep (h : Reads w B size A n xs) (hk : ∀ p : Addr, p.block < B → w'.cell? p = w.cell? p) : Reads w' B size A n xs :=
  ⟨h.1, fun hn => by
    obtain ⟨ad, e, hb, hc⟩ := h.2 hn
    exact ⟨ad, e, hb, fun j u hu => (hk _ (by rw [block_of_add]; exact hb)).trans (hc j u hu)⟩⟩
theorem Reads.more (h : Reads w B size A n xs) (hB : B ≤ B') : Reads w B' size A n xs :=
  ⟨h.1, fun hn => by
    obtain ⟨ad, e, hb, hc⟩ := h.2 hn
    exact ⟨ad, e, by omega, hc⟩⟩
theorem Reads.below (h : Reads w B size A n xs) (hb : Below B w w') : Reads w' B size A n xs := h.keep fun _ hp => hb.cell hp
theorem Reads.drew (h : Reads w B size A n xs) : Reads w.drew B size A n xs := h
theorem Reads.drewN (h : Reads w B size A n xs) (k : Nat) : Reads (w.drewN k) B size A n xs := h
theorem Reads.alloc (h : Reads w B size A n xs) (hB : B ≤ w.heap.size) (o : Obj) : Reads (w.alloc o) B size A n xs := h.keep fun p hp => World.cell?_alloc_lt w o p (by omega)
theorem Reads.setCell (h : Reads w B size A n xs) {p : Addr} (hB : B ≤ p.block) (u : Value) : Reads (w.setCell p u) B size A n xs :=
  h.keep fun q hq => World.cell?_setCell_other w p q u (fun e => by subst e; omega)
theorem Reads.grown (h : Reads w B size A n xs) {row : Option Nat} (hg : w.grownBy w' row) (hB : B ≤ w.heap.size) (hr : ∀ g, row = some g → B ≤ g) : Reads w' B size A n xs :=
  h.keep fun p hp => World.cell?_of_block (hg.block p.block (by omega) (fun e => by have := hr _ e.symm; omega))
theorem Reads.cut (h : Reads w B size A n xs) {k cap : Nat} (hk : k ≤ n) (hc : n ≤ cap) :
    Reads w B size (if cap = k then A else A.map (·.add (k * size))) (n - k) (xs.drop (k * size)) := by
  refine ⟨by rw [List.length_drop, h.1, Nat.sub_mul], fun hn => ?_⟩
  obtain ⟨ad, rfl, hb, hcell⟩ := h.2 (by omega)
  rw [if_neg (by omega)]
  refine ⟨ad.add (k * size), rfl, by rw [block_of_add]; exact hb, fun j u hu => ?_⟩
  rw [add_of_add]
  exact hcell _ u (by rw [← hu, List.getElem?_drop])
theorem Reads.of_own {base : Nat} {e : TypeId} {c : Nat} (h : w.ownsRow base e size (.slice A n c) n xs) : Reads w w.heap.size size A n xs := by
  refine ⟨h.1, fun hn => ?_⟩
  obtain ⟨g, cap, hv, _, hlt⟩ := h.form hn
  have hA : A = some ⟨g, 0, none⟩ := by injection hv
  subst hA
  exact ⟨_, rfl, hlt, h.cells (g := g) rfl⟩
end
section
variable {P : Program} (w : World)
theorem run_append_of_nil (base : Nat) (t ty e : TypeId) (i : TypeInfo) (size : Nat) (ht : P.underlying t = some (.slice e)) (hi : P.info? e = some i)
    (v : Value) (n : Nat) (xs : List Value) (hown : w.ownsRow base e size v n xs) (c : Nat) : (Builtin.append_ #[t, t] ty #[v, .slice none 0 c]).run P w = .ok v w := by
  rcases hown.2 with ⟨rfl, rfl⟩ | ⟨g, cap, cur, rfl, _, _, hnc, _⟩
  · simp [Builtin.append_, run_underlying ht, sizeOf, typeInfo, hi, Builtin.lenOf, Builtin.firstCells]
  · simp [Builtin.append_, run_underlying ht, sizeOf, typeInfo, hi, Builtin.lenOf, Builtin.firstCells, hnc, storeCells]
theorem run_append_any (base : Nat) (t ty e : TypeId) (i : TypeInfo) (z : Value) (size bytes : Nat) (ht : P.underlying t = some (.slice e)) (hi : P.info? e = some i) (hz : i.zero = some z)
    (hsize : i.size = size) (hby : i.bytes = bytes) (hzs : z.cells.size = size) (hsz : 0 < size)
    (v : Value) (n : Nat) (xs : List Value) (hown : w.ownsRow base e size v n xs)
    (B : Nat) (A : Option Addr) (m c : Nat) (news : List Value) (hr : Reads w B size A m news) (h1 : ∀ u ∈ news, u.oneCell' = true)
    (h63 : n + m ≤ maxLen) (hbytes : (n + m) * bytes ≤ 140737488355328) (hbase : base ≤ w.heap.size) :
    ∃ v' w', (Builtin.append_ #[t, t] ty #[v, .slice A m c]).run P w = .ok v' w' ∧ w'.ownsRow base e size v' (n + m) (xs ++ news) ∧ w.grownBy w' v.ownBlock ∧
      (v'.ownBlock = v.ownBlock ∨ v'.ownBlock = some w.heap.size) := by
  rcases A with _ | ad
  · have hm : m = 0 := by
      rcases Nat.eq_zero_or_pos m with h0 | h0
      · exact h0
      · obtain ⟨ad, h, _⟩ := hr.2 h0
        cases h
    subst hm
    have hn : news = [] := List.eq_nil_of_length_eq_zero (by simpa using hr.1)
    subst hn
    exact ⟨v, w, run_append_of_nil w base t ty e i size ht hi v n xs hown c, by simpa using hown, World.grownBy.refl w _, .inl rfl⟩
  · have hcells : ∀ j u, news[j]? = some u → w.cell? (ad.add j) = some u := by
      intro j u hu
      rcases Nat.eq_zero_or_pos m with h0 | h0
      · subst h0
        have hn : news = [] := List.eq_nil_of_length_eq_zero (by simpa using hr.1)
        subst hn
        simp at hu
      · obtain ⟨ad', h, _, hc⟩ := hr.2 h0
        injection h with h
        subst h
        exact hc j u hu
    obtain ⟨v', w', hrun, h2, h3, _, h5⟩ := run_append_own_at (P := P) w base t ty e i z size bytes ht hi hz hsize hby hzs hsz v n xs hown ad m c news hr.1 hcells h1 h63 hbytes hbase
    exact ⟨v', w', hrun, h2, h3, h5⟩
theorem wp_append_any {o : Oper} {a : Act} {K : Act → World → Prop} {Q : Exit → Act → World → Prop} (s x : Operand) (t : TypeId)
    (ho : o.op = .call { callee := .builtin .append, args := #[s, x], argTypes := #[t, t] })
    (base : Nat) (e : TypeId) (i : TypeInfo) (z : Value) (size bytes : Nat) (ht : P.underlying t = some (.slice e)) (hi : P.info? e = some i) (hz : i.zero = some z)
    (hsize : i.size = size) (hby : i.bytes = bytes) (hzs : z.cells.size = size) (hsz : 0 < size)
    (v : Value) (n : Nat) (xs : List Value) (hs : a.eval s = v) (hown : w.ownsRow base e size v n xs)
    (B : Nat) (A : Option Addr) (m c : Nat) (news : List Value) (hx : a.eval x = .slice A m c) (hr : Reads w B size A m news) (h1 : ∀ u ∈ news, u.oneCell' = true)
    (h63 : n + m ≤ maxLen) (hbytes : (n + m) * bytes ≤ 140737488355328) (hbase : base ≤ w.heap.size)
    (h : ∀ v' w', w'.ownsRow base e size v' (n + m) (xs ++ news) → w.grownBy w' v.ownBlock → (v'.ownBlock = v.ownBlock ∨ v'.ownBlock = some w.heap.size) → K (a.put o.dst v') w') : o.wp P a w K Q := by
  obtain ⟨v', w', hrun, h2, h3, h4⟩ := run_append_any (P := P) w base t o.type e i z size bytes ht hi hz hsize hby hzs hsz v n xs hown B A m c news hr h1 h63 hbytes hbase
  unfold Oper.wp execOp
  simp only [ho, resolve, invoke, builtin, Sem.run_bind, Sem.run_pure, Result.andThen_ok, List.map_toArray, List.map_cons, List.map_nil, hs, hx, hrun]
  exact h v' w' h2 h3 h4
theorem wpList_append_any {ops : Array Oper} {rest : List Oper} {o : Oper} {a : Act} {Q : Exit → Act → World → Prop} (hgd : o.guard = none) (s x : Operand) (t : TypeId)
    (ho : o.op = .call { callee := .builtin .append, args := #[s, x], argTypes := #[t, t] })
    (base : Nat) (e : TypeId) (i : TypeInfo) (z : Value) (size bytes : Nat) (ht : P.underlying t = some (.slice e)) (hi : P.info? e = some i) (hz : i.zero = some z)
    (hsize : i.size = size) (hby : i.bytes = bytes) (hzs : z.cells.size = size) (hsz : 0 < size)
    (v : Value) (n : Nat) (xs : List Value) (hs : a.eval s = v) (hown : w.ownsRow base e size v n xs)
    (B : Nat) (A : Option Addr) (m c : Nat) (news : List Value) (hx : a.eval x = .slice A m c) (hr : Reads w B size A m news) (h1 : ∀ u ∈ news, u.oneCell' = true)
    (h63 : n + m ≤ maxLen) (hbytes : (n + m) * bytes ≤ 140737488355328) (hbase : base ≤ w.heap.size)
    (h : ∀ v' w', w'.ownsRow base e size v' (n + m) (xs ++ news) → w.grownBy w' v.ownBlock → (v'.ownBlock = v.ownBlock ∨ v'.ownBlock = some w.heap.size) → wpList P ops Q rest (a.put o.dst v') w') : wpList P ops Q (o :: rest) a w :=
  wpList_plain hgd fun _ hK => wp_append_any w s x t ho base e i z size bytes ht hi hz hsize hby hzs hsz v n xs hs hown B A m c news hx hr h1 h63 hbytes hbase fun v' w' h2 h3 h4 => hK _ _ (h v' w' h2 h3 h4)
end
structure Fr (S : Nat → Prop) (w w' : World) : Prop where
  os : w'.os = w.os
  tape : w'.tape = w.tape
  output : w'.output = w.output
  size : w.heap.size ≤ w'.heap.size
  block : ∀ k, k < w.heap.size → ¬ S k → w'.heap[k]? = w.heap[k]?
namespace Fr
variable {S S' : Nat → Prop} {w w1 w2 : World}
theorem refl (S : Nat → Prop) (w : World) : Fr S w w := ⟨rfl, rfl, rfl, Nat.le_refl _, fun _ _ _ => rfl⟩
theorem trans (h : Fr S w w1) (k : Fr S' w1 w2) (hS : ∀ b, b < w.heap.size → S' b → S b) : Fr S w w2 :=
  ⟨k.os.trans h.os, k.tape.trans h.tape, k.output.trans h.output, Nat.le_trans h.size k.size, fun b hb hn => (k.block b (Nat.lt_of_lt_of_le hb h.size) (fun hs => hn (hS b hb hs))).trans (h.block b hb hn)⟩
theorem mono (h : Fr S w w1) (hS : ∀ b, b < w.heap.size → S b → S' b) : Fr S' w w1 := ⟨h.os, h.tape, h.output, h.size, fun b hb hn => h.block b hb (fun hs => hn (hS b hb hs))⟩
theorem alloc (h : Fr S w w1) (o : Obj) : Fr S w (w1.alloc o) :=
  ⟨h.os, h.tape, h.output, Nat.le_trans h.size (by simp), fun b hb hn => (Below.heap_alloc w1 o b (Nat.lt_of_lt_of_le hb h.size)).trans (h.block b hb hn)⟩
theorem drew (h : Fr S w w1) : Fr S w w1.drew := ⟨h.os, h.tape, h.output, h.size, h.block⟩
theorem drewN (h : Fr S w w1) (n : Nat) : Fr S w (w1.drewN n) := ⟨h.os, h.tape, h.output, h.size, h.block⟩
theorem setCell (h : Fr S w w1) {p : Addr} (hp : p.block < w.heap.size → S p.block) (v : Value) : Fr S w (w1.setCell p v) :=
  ⟨h.os, h.tape, h.output, by simpa [World.setCell] using h.size, fun b hb hn => (Below.heap_setCell w1 p v b (fun e => hn (by rw [e]; exact hp (by rw [← e]; exact hb)))).trans (h.block b hb hn)⟩
theorem below (h : Fr S w w1) (hb : Below w1.heap.size w1 w2) : Fr S w w2 :=
  ⟨hb.os.trans h.os, hb.tape.trans h.tape, hb.output.trans h.output, Nat.le_trans h.size hb.size, fun b hlt hn => (hb.block b (Nat.lt_of_lt_of_le hlt h.size)).trans (h.block b hlt hn)⟩
theorem grown (h : Fr S w w1) {r : Option Nat} (hg : w1.grownBy w2 r) (hr : ∀ b, r = some b → b < w.heap.size → S b) : Fr S w w2 :=
  ⟨hg.os.trans h.os, hg.tape.trans h.tape, hg.output.trans h.output, Nat.le_trans h.size hg.size, fun b hlt hn => (hg.block b (Nat.lt_of_lt_of_le hlt h.size) (fun e => hn (hr b e.symm hlt))).trans (h.block b hlt hn)⟩
theorem toBelow (h : Fr S w w1) (hS : ∀ b, b < w.heap.size → ¬ S b) : Below w.heap.size w w1 := ⟨h.os, h.tape, h.output, h.size, fun b hb => h.block b hb (hS b hb)⟩
theorem of_below (h : Below w.heap.size w w1) : Fr S w w1 := ⟨h.os, h.tape, h.output, h.size, fun b hb _ => h.block b hb⟩
theorem cell (h : Fr S w w1) {b o : Nat} (hn : ¬ S b) {v : Value} (hc : w.cell? ⟨b, o, none⟩ = some v) : w1.cell? ⟨b, o, none⟩ = some v := by
  have hlt := World.block_lt_of_cell? w _ hc
  exact (World.cell?_of_block (a := ⟨b, o, none⟩) (h.block b hlt hn)).trans hc
theorem blk (h : Fr S w w1) {b : Nat} {cs : Array Value} {T : TypeId} (hB : w.heap[b]? = some (.cells cs T (0, 0))) (hn : ¬ S b) : w1.heap[b]? = some (.cells cs T (0, 0)) :=
  (h.block b (Array.getElem?_eq_some_iff.1 hB).1 hn).trans hB
end Fr
def Go.Proofs.Kq.Own {α : Type} (l : α → List Value) (sz : Nat) (e : TypeId) (w : World) (base : Nat) (v : Value) (xs : List α) : Prop := w.ownsRow base e sz v xs.length (xs.flatMap l)
section
variable {α : Type} {l : α → List Value} {sz : Nat} {e : TypeId} {w w1 : World} {base : Nat} {v : Value} {xs : List α}
theorem Go.Proofs.Kq.Own.nil (l : α → List Value) (sz : Nat) (e : TypeId) (w : World) (base : Nat) : Go.Proofs.Kq.Own l sz e w base (.slice none 0 0) [] := ⟨by simp, .inl ⟨rfl, rfl⟩⟩
theorem Go.Proofs.Kq.Own.ge (h : Go.Proofs.Kq.Own l sz e w base v xs) {k : Nat} (hk : v.ownBlock = some k) : base ≤ k := by
  rcases h.2 with ⟨rfl, _⟩ | ⟨g, cap, cur, rfl, hg, _⟩
  · cases hk
  · cases hk; exact hg
theorem Go.Proofs.Kq.Own.at_ (h : Go.Proofs.Kq.Own l sz e w base v xs) {k : Nat} (hk : v.ownBlock = some k) : ∃ cur, w.heap[k]? = some (.cells cur e (0, 0)) := by
  rcases h.2 with ⟨rfl, _⟩ | ⟨g, cap, cur, rfl, hg, hh, _⟩
  · cases hk
  · cases hk; exact ⟨cur, hh⟩
theorem Go.Proofs.Kq.Own.lt (h : Go.Proofs.Kq.Own l sz e w base v xs) {k : Nat} (hk : v.ownBlock = some k) : k < w.heap.size := by
  obtain ⟨cur, hc⟩ := h.at_ hk
  exact (Array.getElem?_eq_some_iff.1 hc).1
theorem Go.Proofs.Kq.Own.kept (h : Go.Proofs.Kq.Own l sz e w base v xs) (hm : ∀ k, v.ownBlock = some k → w1.heap[k]? = w.heap[k]?) : Go.Proofs.Kq.Own l sz e w1 base v xs := by
  refine ⟨h.1, ?_⟩
  rcases h.2 with h2 | ⟨g, cap, cur, rfl, hg, hh, r⟩
  · exact .inl h2
  · exact .inr ⟨g, cap, cur, rfl, hg, (hm g rfl).trans hh, r⟩
theorem Go.Proofs.Kq.Own.fr {S : Nat → Prop} (h : Go.Proofs.Kq.Own l sz e w base v xs) (hf : Fr S w w1) (hn : ∀ k, v.ownBlock = some k → ¬ S k) : Go.Proofs.Kq.Own l sz e w1 base v xs := h.kept fun k hk => hf.block k (h.lt hk) (hn k hk)
theorem Go.Proofs.Kq.Own.below (h : Go.Proofs.Kq.Own l sz e w base v xs) (hb : Below w.heap.size w w1) : Go.Proofs.Kq.Own l sz e w1 base v xs := h.kept fun k hk => hb.block k (h.lt hk)
theorem Go.Proofs.Kq.Own.alloc (h : Go.Proofs.Kq.Own l sz e w base v xs) (o : Obj) : Go.Proofs.Kq.Own l sz e (w.alloc o) base v xs := h.kept fun k hk => Below.heap_alloc w o k (h.lt hk)
theorem Go.Proofs.Kq.Own.drew (h : Go.Proofs.Kq.Own l sz e w base v xs) : Go.Proofs.Kq.Own l sz e w.drew base v xs := h
theorem Go.Proofs.Kq.Own.drewN (h : Go.Proofs.Kq.Own l sz e w base v xs) (n : Nat) : Go.Proofs.Kq.Own l sz e (w.drewN n) base v xs := h
theorem Go.Proofs.Kq.Own.far (h : Go.Proofs.Kq.Own l sz e w base v xs) {p : Addr} (hp : v.ownBlock ≠ some p.block) (u : Value) : Go.Proofs.Kq.Own l sz e (w.setCell p u) base v xs :=
  h.kept fun k hk => Below.heap_setCell w p u k (fun e => hp (by rw [hk, e]))
theorem Go.Proofs.Kq.Own.ne (h : Go.Proofs.Kq.Own l sz e w base v xs) {g T : Nat} {cs : Array Value} (hB : w.heap[g]? = some (.cells cs T (0, 0))) (hT : e ≠ T) : v.ownBlock ≠ some g := by
  intro hk
  obtain ⟨cur, hc⟩ := h.at_ hk
  rw [hB] at hc
  cases hc
  exact hT rfl
theorem Go.Proofs.Kq.Own.ne_own {β : Type} {l' : β → List Value} {sz' : Nat} {e' : TypeId} {base' : Nat} {v' : Value} {ys : List β} (h : Go.Proofs.Kq.Own l sz e w base v xs) (h' : Go.Proofs.Kq.Own l' sz' e' w base' v' ys) (hT : e ≠ e') : ∀ k, v.ownBlock = some k → v'.ownBlock ≠ some k := by
  intro k hk hk'
  obtain ⟨cur, hc⟩ := h.at_ hk
  obtain ⟨cur', hc'⟩ := h'.at_ hk'
  rw [hc] at hc'
  cases hc'
  exact hT rfl
theorem Go.Proofs.Kq.Own.lower {base' : Nat} (h : Go.Proofs.Kq.Own l sz e w base v xs) (hb : base' ≤ base) : Go.Proofs.Kq.Own l sz e w base' v xs := by
  refine ⟨h.1, ?_⟩
  rcases h.2 with h2 | ⟨g, cap, cur, rfl, hg, r⟩
  · exact .inl h2
  · exact .inr ⟨g, cap, cur, rfl, Nat.le_trans hb hg, r⟩
theorem Go.Proofs.Kq.Own.cases_ (h : Go.Proofs.Kq.Own l sz e w base v xs) : (v = .slice none 0 0 ∧ xs = []) ∨ ∃ b c, v = .slice (some ⟨b, 0, none⟩) xs.length c ∧ xs.length ≤ c ∧ c ≤ 9223372036854775807 ∧ base ≤ b ∧ b < w.heap.size := by
  rcases h.2 with ⟨rfl, h0⟩ | ⟨g, cap, cur, rfl, hg, hh, hn, hm, _⟩
  · exact .inl ⟨rfl, List.length_eq_zero_iff.1 h0⟩
  · exact .inr ⟨g, cap, rfl, hn, hm, hg, (Array.getElem?_eq_some_iff.1 hh).1⟩
theorem Go.Proofs.Kq.Own.slice_ (h : Go.Proofs.Kq.Own l sz e w base v xs) : ∃ A c, v = .slice A xs.length c ∧ xs.length ≤ c := by
  rcases h.cases_ with ⟨rfl, rfl⟩ | ⟨b, c, rfl, hc, _⟩
  · exact ⟨_, _, rfl, Nat.le_refl _⟩
  · exact ⟨_, _, rfl, hc⟩
variable {hl : ∀ x, (l x).length = sz} {h1 : ∀ x, ∀ u ∈ l x, u.oneCell' = true}
theorem Go.Proofs.Kq.Own.reads (h : Go.Proofs.Kq.Own l sz e w base v xs) : ∃ A c, v = .slice A xs.length c ∧ xs.length ≤ c ∧ YtckfkbmefdmedaaW.PrintWords.Kd.C (Kp.plain sz l hl h1) w A xs.length xs := by
  rcases h.2 with ⟨rfl, h0⟩ | ⟨g, cap, cur, rfl, hg, hh, hn, hm, hcs, hcur⟩
  · obtain rfl := List.length_eq_zero_iff.1 h0
    exact ⟨none, 0, rfl, Nat.le_refl _, rfl, by simp, fun h => absurd h (by simp)⟩
  · refine ⟨_, cap, rfl, hn, rfl, by simp only [maxLen] at hm; omega, fun _ => ⟨_, rfl, fun j q hj => ⟨l q, hl q, rfl, fun i u hu => ?_⟩⟩⟩
    rw [Kp.add_plain', Nat.zero_add]
    show w.cell? ⟨g, j * sz + i, none⟩ = some u
    have := Kp.flat_get hl hu xs j hj
    rw [← hcur, List.getElem?_take] at this
    split at this
    · simp only [World.cell?, hh, Option.isSome_none, Bool.false_eq_true, if_false]
      rw [← Array.getElem?_toList]; exact this
    · cases this
theorem flat_inv (hl : ∀ x, (l x).length = sz) (hs : 0 < sz) {u : Value} : ∀ (xs : List α) (j : Nat), (xs.flatMap l)[j]? = some u → ∃ i q r, xs[i]? = some q ∧ (l q)[r]? = some u ∧ j = i * sz + r
  | [], j, h => by simp at h
  | x :: xs, j, h => by
    simp only [List.flatMap_cons] at h
    by_cases hj : j < sz
    · rw [List.getElem?_append_left (by rw [hl]; exact hj)] at h
      exact ⟨0, x, j, rfl, h, by simp⟩
    · rw [List.getElem?_append_right (by rw [hl]; omega), hl] at h
      obtain ⟨i, q, r, h1, h2, h3⟩ := flat_inv hl hs xs _ h
      exact ⟨i + 1, q, r, h1, h2, by rw [Nat.succ_mul]; omega⟩
theorem flat_len (hl : ∀ x, (l x).length = sz) : ∀ xs : List α, (xs.flatMap l).length = xs.length * sz
  | [] => by simp
  | x :: xs => by simp [flat_len hl xs, hl, Nat.succ_mul, Nat.add_comm]
theorem flat_one (h1 : ∀ x, ∀ u ∈ l x, u.oneCell' = true) (xs : List α) : ∀ u ∈ xs.flatMap l, u.oneCell' = true := by
  intro u hu
  obtain ⟨x, _, hx⟩ := List.mem_flatMap.1 hu
  exact h1 x u hx
theorem reads_of_C {A : Option Addr} {n : Nat} (hs : 0 < sz) (h : YtckfkbmefdmedaaW.PrintWords.Kd.C (Kp.plain sz l hl h1) w A n xs) : Reads w w.heap.size sz A n (xs.flatMap l) := by
  refine ⟨by rw [flat_len hl, h.1], fun hn => ?_⟩
  obtain ⟨b, off, rfl, hc⟩ := Kp.C_open h hn hs
  refine ⟨_, rfl, ?_, fun j u hu => ?_⟩
  · have hx : 0 < xs.length := by rw [h.1]; exact hn
    have := hc 0 hx 0 ((l xs[0])[0]'(by rw [hl]; exact hs)) (List.getElem?_eq_getElem _)
    have hlt := World.block_lt_of_cell? w _ this
    exact hlt
  · obtain ⟨i, q, r, h2, h3, rfl⟩ := flat_inv hl hs xs j hu
    obtain ⟨hi, rfl⟩ := List.getElem?_eq_some_iff.1 h2
    rw [Kp.add_plain', ← Nat.add_assoc]
    exact hc i hi r u h3
theorem Go.Proofs.Kq.Own.snoc {p : α} (h : w.ownsRow base e sz v (xs.length + 1) (xs.flatMap l ++ l p)) : Go.Proofs.Kq.Own l sz e w base v (xs ++ [p]) := by
  unfold Go.Proofs.Kq.Own
  simpa using h
end
end Go.Proofs.Kq
namespace Go.Proofs.Ytckfkbmefdmedaa
open Go.RowKit Go.Proofs.YtckfkbmefdmedaaW.PrintWords Go.Proofs.YtckfkbmefdmedaaW.PrintLast
set_option linter.unusedVariables false
set_option linter.unusedSimpArgs false
open Go.Proofs.Kq (Reads wpList_append_any)
theorem info9s : (Try.prog.info? 9).map (fun i => (i.zero, i.size, i.bytes)) = some (some (.string ⟨#[]⟩), 1, 16) := by kernel_rfl
end Go.Proofs.Ytckfkbmefdmedaa
namespace Go.Proofs.Ytckfkbmefdmedaa
open Go.RowKit Go.Proofs.Kq Go.Proofs.YtckfkbmefdmedaaW.PrintLast
open Go.Proofs.YtckfkbmefdmedaaW.PrintWords (pw_cell_below Kd Kd.C Kd.C_below Kd.R Kd.R_of_own Kd.R_reads encs encs_length)
set_option linter.unusedVariables false
set_option linter.unusedSimpArgs false
def OwnS (w : World) (base : Nat) (v : Value) (xs : List ByteArray) : Prop := w.ownsRow base 9 1 v xs.length (encs Value.string xs)
theorem own_base {w : World} {base : Nat} {v : Value} {xs : List ByteArray} (h : OwnS w base v xs) {k : Nat} (hk : v.ownBlock = some k) : base ≤ k := by
  rcases h.2 with ⟨rfl, _⟩ | ⟨g, cap, cur, rfl, hg, _⟩
  · cases hk
  · cases hk; exact hg
end Go.Proofs.Ytckfkbmefdmedaa
namespace Go.Proofs.Ytckfkbmefdmedaa
open Go.RowKit Go.Proofs.Kq
open Go.Proofs.YtckfkbmefdmedaaW.PrintWords (pw_cell_below step_append_cells print_append_cells Kd Kd.C Kd.C_below)
open Go.Proofs.YtckfkbmefdmedaaW.PrintLast
set_option linter.unusedSimpArgs false
set_option linter.unusedVariables false
def l8o (z : Int) : List Value := [.int .u8 z]
structure Wt (w : World) (base g : Nat) (v : Value) (bs : List Int) (bad : Bool) : Prop where
  blk : Blk w g #[v, .bool bad] 180
  own : Go.Proofs.Kq.Own l8o 1 5 w base v bs
def WP (base g : Nat) (v : Value) (bs : List Int) (bad : Bool) (w : World) (e : Ending) (w' : World) : Prop :=
  ∃ v', e = .returned (.pointer (some ⟨g, 0, none⟩)) ∧ Wt w' base g v' bs bad ∧ Fr (fun k => k = g ∨ v.ownBlock = some k) w w'
theorem WP.bel {w0 w w' : World} {g : Nat} {v : Value} {bs : List Int} {bad : Bool} {e : Ending} {base : Nat} (h : Fr (fun k => k = g ∨ v.ownBlock = some k) w w') (hW : Wt w w0.heap.size g v bs bad) (hg : w0.heap.size ≤ g) (hb : Below w0.heap.size w0 w) : Below w0.heap.size w0 w' := by
  refine ((Fr.of_below (S := fun k => w0.heap.size ≤ k) hb).trans h (fun b _ e => ?_)).toBelow (fun b hb2 hk => by omega)
  rcases e with rfl | e
  · exact hg
  · exact hW.own.ge e
def WG (w0 : World) (g : Nat) (bs : List Int) (bad : Bool) (w : World) : Prop := ∃ v, Wt w w0.heap.size g v bs bad ∧ w0.heap.size ≤ g ∧ Below w0.heap.size w0 w
theorem WG.below {w0 w w1 : World} {g : Nat} {bs : List Int} {bad : Bool} (h : WG w0 g bs bad w) (hb : Below w.heap.size w w1) : WG w0 g bs bad w1 := by
  obtain ⟨v, ⟨h1, h2⟩, h3, h4⟩ := h
  exact ⟨v, ⟨h1.be hb, h2.below hb⟩, h3, below_step h4 hb⟩
end Go.Proofs.Ytckfkbmefdmedaa
namespace Go.Proofs.Ytckfkbmefdmedaa
open Go.RowKit Go.Proofs.Kq
open Go.Proofs.YtckfkbmefdmedaaW.PrintWords (pw_cell_below Kd Kd.C Kd.C_below)
set_option linter.unusedVariables false
set_option linter.unusedSimpArgs false
structure Wr where
  at_ : Int
  data : ByteArray
def Wr.l (p : Wr) : List Value := [.int .i64 p.at_, .string p.data]
def sl (s : ByteArray) : List Value := [.string s]
theorem sl_len (s : ByteArray) : (sl s).length = 1 := rfl
theorem sl_one (s : ByteArray) : ∀ u ∈ sl s, u.oneCell' = true := by intro u hu; rcases List.mem_singleton.1 hu with rfl; rfl
theorem wr_len (p : Wr) : p.l.length = 2 := rfl
abbrev Strs (w : World) (base : Nat) (v : Value) (bs : List ByteArray) : Prop := Go.Proofs.Kq.Own sl 1 9 w base v bs
abbrev Wrs (w : World) (base : Nat) (v : Value) (ps : List Wr) : Prop := Go.Proofs.Kq.Own Wr.l 2 135 w base v ps
structure Dt (w : World) (base d : Nat) (v1 v2 : Value) (bs : List ByteArray) (ps : List Wr) (fuse : Int) (dead : Bool) : Prop where
  blk : Blk w d #[v1, v2, .int .i64 fuse, .bool dead] 132
  own : Strs w base v1 bs
  pend : Wrs w base v2 ps
theorem Dt.below {w w1 : World} {base d : Nat} {v1 v2 : Value} {bs : List ByteArray} {ps : List Wr} {fuse : Int} {dead : Bool} (h : Dt w base d v1 v2 bs ps fuse dead) (hb : Below w.heap.size w w1) : Dt w1 base d v1 v2 bs ps fuse dead :=
  ⟨h.blk.be hb, h.own.below hb, h.pend.below hb⟩
def DS (d : Nat) (v1 v2 : Value) : Nat → Prop := fun k => k = d ∨ v1.ownBlock = some k ∨ v2.ownBlock = some k
theorem Dt.fr {S : Nat → Prop} {w w1 : World} {base d : Nat} {v1 v2 : Value} {bs : List ByteArray} {ps : List Wr} {fuse : Int} {dead : Bool} (h : Dt w base d v1 v2 bs ps fuse dead) (hf : Fr S w w1) (hS : ∀ k, DS d v1 v2 k → ¬ S k) : Dt w1 base d v1 v2 bs ps fuse dead :=
  ⟨hf.blk h.blk (hS d (.inl rfl)), h.own.fr hf (fun k hk => hS k (.inr (.inl hk))), h.pend.fr hf (fun k hk => hS k (.inr (.inr hk)))⟩
def usF (n : Nat) (dead : Bool) (at_ : Int) : Int := if dead = true then 7 else if at_ < 0 ∨ (n : Int) ≤ at_ then 8 else 0
def UsP (n : Nat) (dead : Bool) (at_ : Int) (w : World) (e : Ending) (w' : World) : Prop := e = .returned (.int .i64 (usF n dead at_)) ∧ w' = w
set_option maxHeartbeats 1000000 in
theorem usable_any (base d : Nat) (v1 v2 : Value) (bs : List ByteArray) (ps : List Wr) (fuse : Int) (dead : Bool) (at_ : Int) (w : World) (h : Dt w base d v1 v2 bs ps fuse dead) :
    Calls Try.prog 78 #[.pointer (some ⟨d, 0, none⟩), .int .i64 at_] w (UsP bs.length dead at_ w) := by
  obtain ⟨A, c, rfl, _⟩ := h.own.slice_
  have c0 := h.blk.c; have l0 := h.blk.lt; have f0 := h.blk.f
  cases dead
  · have hfin : Hid (UsP bs.length false at_ w (.returned (.int .i64 (if at_ < 0 ∨ (bs.length : Int) ≤ at_ then 8 else 0))) w) := hidI ⟨rfl, rfl⟩
    clear h
    by_cases h1 : at_ < 0
    · rw [if_pos (.inl h1)] at hfin
      have g1 : decide (at_ < 0) = true := decide_eq_true h1
      go_enter Try.func78, Try.ntmps78
      go_wp2
      go_ret
      exact hfin.out
    · have g1 : decide (at_ < 0) = false := decide_eq_false h1
      by_cases h2 : (bs.length : Int) ≤ at_
      · rw [if_pos (.inr h2)] at hfin
        have g2 : decide ((bs.length : Int) ≤ at_) = true := decide_eq_true h2
        go_enter Try.func78, Try.ntmps78
        go_wp2
        go_ret
        exact hfin.out
      · rw [if_neg (by omega)] at hfin
        have g2 : decide ((bs.length : Int) ≤ at_) = false := decide_eq_false h2
        go_enter Try.func78, Try.ntmps78
        go_wp2
        go_ret
        exact hfin.out
  · have hfin : Hid (UsP bs.length true at_ w (.returned (.int .i64 7)) w) := hidI ⟨rfl, rfl⟩
    clear h
    go_enter Try.func78, Try.ntmps78
    go_wp2
    go_ret
    exact hfin.out
def thF (fuse : Int) (dead : Bool) : Bool := !(decide (fuse = 0) || dead)
def thN (fuse : Int) : Int := if 0 < fuse then fuse - 1 else fuse
def ThP (base d : Nat) (v1 v2 : Value) (bs : List ByteArray) (ps : List Wr) (fuse : Int) (dead : Bool) (w : World) (e : Ending) (w' : World) : Prop :=
  e = .returned (.bool (thF fuse dead)) ∧ Dt w' base d v1 v2 bs ps (thN fuse) (decide (fuse = 0) || dead) ∧ Fr (fun k => k = d) w w'
theorem Dt.st {w : World} {base d : Nat} {v1 v2 : Value} {bs : List ByteArray} {ps : List Wr} {fuse : Int} {dead : Bool} (h : Dt w base d v1 v2 bs ps fuse dead) :
    (∀ f2 : Int, Dt (w.setCell ⟨d, 2, none⟩ (.int .i64 f2)) base d v1 v2 bs ps f2 dead) ∧ (∀ b2 : Bool, Dt (w.setCell ⟨d, 3, none⟩ (.bool b2)) base d v1 v2 bs ps fuse b2) := by
  have n1 : v1.ownBlock ≠ some d := h.own.ne h.blk (by decide)
  have n2 : v2.ownBlock ≠ some d := h.pend.ne h.blk (by decide)
  exact ⟨fun f2 => ⟨h.blk.st 2 _, h.own.far (p := ⟨d, 2, none⟩) n1 _, h.pend.far (p := ⟨d, 2, none⟩) n2 _⟩, fun b2 => ⟨h.blk.st 3 _, h.own.far (p := ⟨d, 3, none⟩) n1 _, h.pend.far (p := ⟨d, 3, none⟩) n2 _⟩⟩
set_option maxHeartbeats 1000000 in
theorem thing_any (base d : Nat) (v1 v2 : Value) (bs : List ByteArray) (ps : List Wr) (fuse : Int) (dead : Bool) (w : World) (h : Dt w base d v1 v2 bs ps fuse dead) (hf : -9223372036854775808 ≤ fuse ∧ fuse ≤ 9223372036854775807) :
    Calls Try.prog 79 #[.pointer (some ⟨d, 0, none⟩)] w (ThP base d v1 v2 bs ps fuse dead w) := by
  have c0 := h.blk.c; have l0 := h.blk.lt; have f0 := h.blk.f
  by_cases h0 : fuse = 0
  · have hfin : Hid (ThP base d v1 v2 bs ps fuse dead w (.returned (.bool false)) (w.setCell ⟨d, 3, none⟩ (.bool true))) := hidI (by
      subst h0
      exact ⟨rfl, h.st.2 true, (Fr.refl (fun k => k = d) w).setCell (fun _ => rfl) _⟩)
    subst h0
    clear h
    go_enter Try.func79, Try.ntmps79
    go_wp2
    go_ret
    exact hfin.out
  · have g0 : (fuse == 0) = false := beq_eq_false_iff_ne.mpr h0
    by_cases h1 : 0 < fuse
    · have g1 : decide (0 < fuse) = true := decide_eq_true h1
      have hfin : Hid (ThP base d v1 v2 bs ps fuse dead w (.returned (.bool (!dead))) (w.setCell ⟨d, 2, none⟩ (.int .i64 (fuse - 1)))) := hidI (by
        refine ⟨by unfold thF; rw [decide_eq_false h0, Bool.false_or], ?_, (Fr.refl (fun k => k = d) w).setCell (fun _ => rfl) _⟩
        rw [decide_eq_false h0, Bool.false_or]
        unfold thN
        rw [if_pos h1]
        exact h.st.1 (fuse - 1))
      clear h
      go_enter Try.func79, Try.ntmps79
      go_wp2
      go_ret
      exact hfin.out
    · have g1 : decide (0 < fuse) = false := decide_eq_false h1
      have hfin : Hid (ThP base d v1 v2 bs ps fuse dead w (.returned (.bool (!dead))) w) := hidI (by
        refine ⟨by unfold thF; rw [decide_eq_false h0, Bool.false_or], ?_, Fr.refl _ _⟩
        rw [decide_eq_false h0, Bool.false_or]
        unfold thN
        rw [if_neg h1]
        exact h)
      clear h
      go_enter Try.func79, Try.ntmps79
      go_wp2
      go_ret
      exact hfin.out
end Go.Proofs.Ytckfkbmefdmedaa
namespace Go.Proofs.Ytckfkbmefdmedaa
open Go.RowKit Go.Proofs.Kq
open Go.Proofs.YtckfkbmefdmedaaW.PrintWords (pw_cell_below Kd Kd.C Kd.C_below)
set_option linter.unusedVariables false
set_option linter.unusedSimpArgs false
structure DkS where
  bs : List ByteArray
  ps : List Wr
  fuse : Int
  dead : Bool
abbrev DT (w : World) (base d : Nat) (v1 v2 : Value) (s : DkS) : Prop := Dt w base d v1 v2 s.bs s.ps s.fuse s.dead
def MuP (base d : Nat) (v1 v2 : Value) (r : Ending) (s : DkS) (w : World) (e : Ending) (w' : World) : Prop :=
  e = r ∧ ∃ v2', DT w' base d v1 v2' s ∧ Fr (DS d v1 v2) w w' ∧ ∀ k, DS d v1 v2' k → DS d v1 v2 k ∨ w.heap.size ≤ k
def wrS (s : DkS) (at_ : Int) (data : ByteArray) : Int × DkS :=
  if usF s.bs.length s.dead at_ = 0 then
    (if data.size = 64 then (if thF s.fuse s.dead = true then 0 else 7, ⟨s.bs, s.ps ++ [⟨at_, data⟩], thN s.fuse, decide (s.fuse = 0) || s.dead⟩) else (1, s))
  else (usF s.bs.length s.dead at_, s)
theorem info135 : (Try.prog.info? 135).map (fun i => (i.zero, i.size, i.bytes)) = some (some (.agg #[.int .i64 0, .string ⟨#[]⟩]), 2, 24) := by kernel_rfl
theorem MuP.same {base d : Nat} {v1 v2 : Value} {r : Ending} {s : DkS} {w : World} (h : DT w base d v1 v2 s) : MuP base d v1 v2 r s w r w := ⟨rfl, v2, h, Fr.refl _ _, fun k hk => .inl hk⟩
set_option maxHeartbeats 2000000 in
set_option maxRecDepth 100000 in
theorem write_any (base d : Nat) (v1 v2 : Value) (s : DkS) (at_ : Int) (data : ByteArray) (w : World) (h : DT w base d v1 v2 s) (hb : base ≤ w.heap.size) (hf : -9223372036854775808 ≤ s.fuse ∧ s.fuse ≤ 9223372036854775807) (hl : s.ps.length ≤ 5000000000000) :
    Calls Try.prog 26 #[.pointer (some ⟨d, 0, none⟩), .int .i64 at_, .string data] w (MuP base d v1 v2 (.returned (.int .i64 (wrS s at_ data).1)) (wrS s at_ data).2 w) := by
  obtain ⟨bs, ps, fuse, dead⟩ := s
  have hU := usable_any base d v1 v2 bs ps fuse dead at_ w h
  obtain ⟨R, hR⟩ : ∃ R, R = wrS ⟨bs, ps, fuse, dead⟩ at_ data := ⟨_, rfl⟩
  rw [← hR]
  have HR := hidI hR
  clear hR
  unfold UsP at hU
  by_cases hu : usF bs.length dead at_ = 0
  · by_cases h64 : data.size = 64
    · have hws : Hid (R = (if thF fuse dead = true then 0 else 7, ⟨bs, ps ++ [⟨at_, data⟩], thN fuse, decide (fuse = 0) || dead⟩)) := hidI (by
        rw [HR.out]; unfold wrS; rw [if_pos hu, if_pos h64])
      obtain ⟨A2, c2, rfl, _⟩ := h.pend.slice_
      have c0 := h.blk.c; have l0 := h.blk.lt; have f0 := h.blk.f
      have HD := hidI h
      have g1 : ((data.size : Int) == 64) = true := by rw [h64]; rfl
      rw [hu] at hU
      clear hu h64 h
      go_enter Try.func26, Try.ntmps26
      go_wp2_with fail
      with_reducible refine hU.mono ?_
      rintro e w1 ⟨rfl, hw1⟩
      subst hw1
      clear hU
      simp only []
      obtain ⟨i0, hi0, hz0, hz1, hz2⟩ := info_parts info135
      have NE : some d ≠ (Value.slice A2 ps.length c2).ownBlock := Ne.symm (HD.out.pend.ne HD.out.blk (by decide))
      have hO := HD.out.pend.below (below_new (Below.refl w1.heap.size w1) (.cells #[.int .i64 at_, .string data] 135))
      have hRd : Reads (w1.alloc (.cells #[.int .i64 at_, .string data] 135)) (w1.heap.size + 1) 2 (some ⟨w1.heap.size, 0, none⟩) 1 [.int .i64 at_, .string data] := ⟨rfl, fun _ => ⟨_, rfl, Nat.lt_succ_self _, fun j q hj => by
        have h2 := Blk.c (Blk.new' (w := w1) (b := w1.heap.size) (cs := #[.int .i64 at_, .string data]) (T := 135) rfl)
        rw [Kp.add_plain', Nat.zero_add, h2]
        simpa using hj⟩⟩
      go_wp2_with (at_builtin; refine wpList_append_any _ rfl (.tmp 21) (.tmp 25) 130 rfl base 135 i0 (.agg #[.int .i64 0, .string ⟨#[]⟩]) 2 24 Try.underlying130 hi0 hz0 hz1 hz2 rfl (by decide) (.slice A2 ps.length c2) ps.length (ps.flatMap Wr.l) rfl hO (w1.heap.size + 1) (some ⟨w1.heap.size, 0, none⟩) 1 1 [.int .i64 at_, .string data] rfl hRd ?a1 ?aM ?aB ?aS ?_; (case a1 => intro q hq; simp only [List.mem_cons, List.not_mem_nil, or_false] at hq; rcases hq with rfl | rfl <;> rfl); (case aM => simp only [maxLen]; omega); (case aB => omega); (case aS => simp; omega); intro v5 w5 hown hg hat; have hO5 := Go.Proofs.Kq.Own.snoc (p := (⟨at_, data⟩ : Wr)) hown; obtain ⟨A5, c5, rfl, _⟩ := hO5.slice_; have hB5 := Blk.gb (HD.out.blk.al (.cells #[.int .i64 at_, .string data] 135)) hg NE; have c5' := hB5.c; have l5' := hB5.lt; have f5' := hB5.f; clear hown hO)
      have e1 : (ps ++ [(⟨at_, data⟩ : Wr)]).length = ps.length + 1 := by simp
      rw [e1] at hO5
      have hD6 : Dt (w5.setCell ⟨d, 1, none⟩ (.slice A5 (ps.length + 1) c5)) base d v1 (.slice A5 (ps.length + 1) c5) bs (ps ++ [⟨at_, data⟩]) fuse dead := by
        refine ⟨hB5.st 1 _, ?_, hO5.far (p := ⟨d, 1, none⟩) (hO5.ne hB5 (by decide)) _⟩
        refine Go.Proofs.Kq.Own.far (p := ⟨d, 1, none⟩) (v := v1) ?_ (HD.out.own.ne HD.out.blk (by decide)) _
        refine Go.Proofs.Kq.Own.kept (w := w1) HD.out.own (fun k hk => ?_)
        have hlt := HD.out.own.lt hk
        have h2 : (w1.alloc (.cells #[.int .i64 at_, .string data] 135)).heap[k]? = w1.heap[k]? := Below.heap_alloc w1 _ k hlt
        rw [← h2]
        exact hg.block k (by simp; omega) (fun e => HD.out.own.ne_own HD.out.pend (by decide) k hk e.symm)
      have hF6 : Fr (DS d v1 (.slice A2 ps.length c2)) w1 (w5.setCell ⟨d, 1, none⟩ (.slice A5 (ps.length + 1) c5)) :=
        (((Fr.refl _ w1).alloc _).grown hg (fun b e _ => .inr (.inr e))).setCell (fun _ => .inl rfl) _
      have hP6 : ∀ k, DS d v1 (.slice A5 (ps.length + 1) c5) k → DS d v1 (.slice A2 ps.length c2) k ∨ w1.heap.size ≤ k := by
        rintro k (h | h | h)
        · exact .inl (.inl h)
        · exact .inl (.inr (.inl h))
        · rcases hat with h2 | h2
          · exact .inl (.inr (.inr (by rw [← h2, e1]; exact h)))
          · right
            rw [e1] at h2
            rw [h2] at h
            have : k = w1.heap.size + 1 := by simpa using h.symm
            omega
      have HD6 := hidI hD6
      have HF6 := hidI hF6
      have HP6 := hidI hP6
      have hT := thing_any base d v1 _ bs _ fuse dead _ hD6 hf
      clear hD6 hF6 hP6 hO5 hB5 hat hg NE hRd c0 l0 f0 c5' l5' f5'
      generalize w5.setCell ⟨d, 1, none⟩ (.slice A5 (ps.length + 1) c5) = w6 at *
      with_reducible refine hT.mono ?_
      rintro e w7 ⟨rfl, hD7, hF7⟩
      have hfin0 : MuP base d v1 (.slice A2 ps.length c2) (.returned (.int .i64 R.1)) R.2 w1 (.returned (.int .i64 R.1)) w7 := by
        refine ⟨rfl, .slice A5 (ps.length + 1) c5, ?_, HF6.out.trans hF7 (fun b _ e => .inl e), HP6.out⟩
        rw [hws.out]; exact hD7
      clear hT hD7 hF7
      simp only []
      cases hth : thF fuse dead
      · rw [hws.out, hth] at hfin0
        have hfin : Hid (MuP base d v1 (.slice A2 ps.length c2) (.returned (.int .i64 R.1)) R.2 w1 (.returned (.int .i64 7)) w7) := hidI (by rw [hws.out, hth]; exact hfin0)
        clear hfin0 hth
        go_wp2_with fail
        go_ret
        exact hfin.out
      · rw [hws.out, hth] at hfin0
        have hfin : Hid (MuP base d v1 (.slice A2 ps.length c2) (.returned (.int .i64 R.1)) R.2 w1 (.returned (.int .i64 0)) w7) := hidI (by rw [hws.out, hth]; exact hfin0)
        clear hfin0 hth
        go_wp2_with fail
        go_ret
        exact hfin.out
    · have hws : Hid (R = (1, ⟨bs, ps, fuse, dead⟩)) := hidI (by
        rw [HR.out]; unfold wrS; rw [if_pos hu, if_neg h64])
      have g1 : ((data.size : Int) == 64) = false := beq_eq_false_iff_ne.mpr (by omega)
      rw [hu] at hU
      have hfin : Hid (MuP base d v1 v2 (.returned (.int .i64 R.1)) R.2 w (.returned (.int .i64 1)) w) := hidI (by rw [hws.out]; exact MuP.same h)
      clear hu h64 h
      go_enter Try.func26, Try.ntmps26
      go_wp2_with fail
      with_reducible refine hU.mono ?_
      rintro e w1 ⟨rfl, hw1⟩
      subst hw1
      clear hU
      simp only []
      go_wp2_with fail
      go_ret
      exact hfin.out
  · have hws : Hid (R = (usF bs.length dead at_, ⟨bs, ps, fuse, dead⟩)) := hidI (by
      rw [HR.out]; unfold wrS; rw [if_neg hu])
    have hfin : Hid (MuP base d v1 v2 (.returned (.int .i64 R.1)) R.2 w (.returned (.int .i64 (usF bs.length dead at_))) w) := hidI (by rw [hws.out]; exact MuP.same h)
    have g1 : (usF bs.length dead at_ == 0) = false := beq_eq_false_iff_ne.mpr hu
    generalize usF bs.length dead at_ = u at *
    clear hu h
    go_enter Try.func26, Try.ntmps26
    go_wp2_with fail
    with_reducible refine hU.mono ?_
    rintro e w1 ⟨rfl, hw1⟩
    subst hw1
    clear hU
    simp only []
    go_wp2_with fail
    go_ret
    exact hfin.out
end Go.Proofs.Ytckfkbmefdmedaa
namespace Go.Proofs.Ytckfkbmefdmedaa
open Go.RowKit Go.Proofs.Kq
open Go.Proofs.YtckfkbmefdmedaaW.PrintWords (pw_cell_below Kd Kd.C Kd.C_below)
set_option linter.unusedVariables false
set_option linter.unusedSimpArgs false
abbrev Wre (w : World) (base : Nat) (v : Value) (ps : List Wr) : Prop := Go.Proofs.Kq.Own Wr.l 2 140 w base v ps
structure Et (w : World) (base d : Nat) (v1 v2 : Value) (bs : List ByteArray) (ps : List Wr) (fuse : Int) (dead : Bool) : Prop where
  blk : Blk w d #[v1, v2, .int .i64 fuse, .bool dead] 65
  own : Strs w base v1 bs
  pend : Wre w base v2 ps
theorem Et.below {w w1 : World} {base d : Nat} {v1 v2 : Value} {bs : List ByteArray} {ps : List Wr} {fuse : Int} {dead : Bool} (h : Et w base d v1 v2 bs ps fuse dead) (hb : Below w.heap.size w w1) : Et w1 base d v1 v2 bs ps fuse dead :=
  ⟨h.blk.be hb, h.own.below hb, h.pend.below hb⟩
def ES (d : Nat) (v1 v2 : Value) : Nat → Prop := fun k => k = d ∨ v1.ownBlock = some k ∨ v2.ownBlock = some k
theorem Et.fr {S : Nat → Prop} {w w1 : World} {base d : Nat} {v1 v2 : Value} {bs : List ByteArray} {ps : List Wr} {fuse : Int} {dead : Bool} (h : Et w base d v1 v2 bs ps fuse dead) (hf : Fr S w w1) (hS : ∀ k, ES d v1 v2 k → ¬ S k) : Et w1 base d v1 v2 bs ps fuse dead :=
  ⟨hf.blk h.blk (hS d (.inl rfl)), h.own.fr hf (fun k hk => hS k (.inr (.inl hk))), h.pend.fr hf (fun k hk => hS k (.inr (.inr hk)))⟩
theorem Et.st {w : World} {base d : Nat} {v1 v2 : Value} {bs : List ByteArray} {ps : List Wr} {fuse : Int} {dead : Bool} (h : Et w base d v1 v2 bs ps fuse dead) :
    (∀ f2 : Int, Et (w.setCell ⟨d, 2, none⟩ (.int .i64 f2)) base d v1 v2 bs ps f2 dead) ∧ (∀ b2 : Bool, Et (w.setCell ⟨d, 3, none⟩ (.bool b2)) base d v1 v2 bs ps fuse b2) := by
  have n1 : v1.ownBlock ≠ some d := h.own.ne h.blk (by decide)
  have n2 : v2.ownBlock ≠ some d := h.pend.ne h.blk (by decide)
  exact ⟨fun f2 => ⟨h.blk.st 2 _, h.own.far (p := ⟨d, 2, none⟩) n1 _, h.pend.far (p := ⟨d, 2, none⟩) n2 _⟩, fun b2 => ⟨h.blk.st 3 _, h.own.far (p := ⟨d, 3, none⟩) n1 _, h.pend.far (p := ⟨d, 3, none⟩) n2 _⟩⟩
abbrev ET (w : World) (base d : Nat) (v1 v2 : Value) (s : DkS) : Prop := Et w base d v1 v2 s.bs s.ps s.fuse s.dead
def EhP (base d : Nat) (v1 v2 : Value) (bs : List ByteArray) (ps : List Wr) (fuse : Int) (dead : Bool) (w : World) (e : Ending) (w' : World) : Prop :=
  e = .returned (.bool (!decide (fuse = 0))) ∧ Et w' base d v1 v2 bs ps (thN fuse) (decide (fuse = 0) || dead) ∧ Fr (fun k => k = d) w w'
set_option maxHeartbeats 1000000 in
theorem rthing_any (base d : Nat) (v1 v2 : Value) (bs : List ByteArray) (ps : List Wr) (fuse : Int) (dead : Bool) (w : World) (h : Et w base d v1 v2 bs ps fuse dead) (hf : -9223372036854775808 ≤ fuse ∧ fuse ≤ 9223372036854775807) :
    Calls Try.prog 82 #[.pointer (some ⟨d, 0, none⟩)] w (EhP base d v1 v2 bs ps fuse dead w) := by
  have c0 := h.blk.c; have l0 := h.blk.lt; have f0 := h.blk.f
  by_cases h0 : fuse = 0
  · have hfin : Hid (EhP base d v1 v2 bs ps fuse dead w (.returned (.bool false)) (w.setCell ⟨d, 3, none⟩ (.bool true))) := hidI (by
      subst h0
      exact ⟨rfl, h.st.2 true, (Fr.refl (fun k => k = d) w).setCell (fun _ => rfl) _⟩)
    subst h0
    clear h
    go_enter Try.func82, Try.ntmps82
    go_wp2
    go_ret
    exact hfin.out
  · have g0 : (fuse == 0) = false := beq_eq_false_iff_ne.mpr h0
    by_cases h1 : 0 < fuse
    · have g1 : decide (0 < fuse) = true := decide_eq_true h1
      have hfin : Hid (EhP base d v1 v2 bs ps fuse dead w (.returned (.bool true)) (w.setCell ⟨d, 2, none⟩ (.int .i64 (fuse - 1)))) := hidI (by
        refine ⟨by rw [decide_eq_false h0]; rfl, ?_, (Fr.refl (fun k => k = d) w).setCell (fun _ => rfl) _⟩
        rw [decide_eq_false h0, Bool.false_or]
        unfold thN
        rw [if_pos h1]
        exact h.st.1 (fuse - 1))
      clear h
      go_enter Try.func82, Try.ntmps82
      go_wp2
      go_ret
      exact hfin.out
    · have g1 : decide (0 < fuse) = false := decide_eq_false h1
      have hfin : Hid (EhP base d v1 v2 bs ps fuse dead w (.returned (.bool true)) w) := hidI (by
        refine ⟨by rw [decide_eq_false h0]; rfl, ?_, Fr.refl _ _⟩
        rw [decide_eq_false h0, Bool.false_or]
        unfold thN
        rw [if_neg h1]
        exact h)
      clear h
      go_enter Try.func82, Try.ntmps82
      go_wp2
      go_ret
      exact hfin.out
end Go.Proofs.Ytckfkbmefdmedaa
namespace Go.Proofs.Ytckfkbmefdmedaa
open Go.RowKit Go.Proofs.Kq
open Go.Proofs.YtckfkbmefdmedaaW.PrintWords (pw_cell_below Kd Kd.C Kd.C_below)
set_option linter.unusedVariables false
set_option linter.unusedSimpArgs false
def RuP (base d : Nat) (v1 v2 : Value) (r : Ending) (s : DkS) (w : World) (e : Ending) (w' : World) : Prop :=
  e = r ∧ ∃ v2', ET w' base d v1 v2' s ∧ Fr (ES d v1 v2) w w' ∧ ∀ k, ES d v1 v2' k → ES d v1 v2 k ∨ w.heap.size ≤ k
theorem info140 : (Try.prog.info? 140).map (fun i => (i.zero, i.size, i.bytes)) = some (some (.agg #[.int .i64 0, .string ⟨#[]⟩]), 2, 24) := by kernel_rfl
theorem RuP.same {base d : Nat} {v1 v2 : Value} {r : Ending} {s : DkS} {w : World} (h : ET w base d v1 v2 s) : RuP base d v1 v2 r s w r w := ⟨rfl, v2, h, Fr.refl _ _, fun k hk => .inl hk⟩
set_option maxHeartbeats 2000000 in
set_option maxRecDepth 100000 in
theorem rwrite_any (base d : Nat) (v1 v2 : Value) (s : DkS) (at_ : Int) (data : ByteArray) (w : World) (h : ET w base d v1 v2 s) (hb : base ≤ w.heap.size) (hf : -9223372036854775808 ≤ s.fuse ∧ s.fuse ≤ 9223372036854775807) (hl : s.ps.length ≤ 5000000000000) :
    Calls Try.prog 37 #[.pointer (some ⟨d, 0, none⟩), .int .i64 at_, .string data] w (RuP base d v1 v2 (.returned (.int .i64 (wrS s at_ data).1)) (wrS s at_ data).2 w) := by
  obtain ⟨bs, ps, fuse, dead⟩ := s
  obtain ⟨R, hR⟩ : ∃ R, R = wrS ⟨bs, ps, fuse, dead⟩ at_ data := ⟨_, rfl⟩
  rw [← hR]
  have HR := hidI hR
  clear hR
  have c0 := h.blk.c; have l0 := h.blk.lt; have f0 := h.blk.f
  obtain ⟨A1, c1, rfl, _⟩ := h.own.slice_
  cases dead
  · by_cases hu : at_ < 0 ∨ (bs.length : Int) ≤ at_
    · have hws : Hid (R = (8, ⟨bs, ps, fuse, false⟩)) := hidI (by
        rw [HR.out]; unfold wrS usF; simp [hu])
      have hfin : Hid (RuP base d (.slice A1 bs.length c1) v2 (.returned (.int .i64 R.1)) R.2 w (.returned (.int .i64 8)) w) := hidI (by rw [hws.out]; exact RuP.same h)
      clear h
      by_cases h1 : at_ < 0
      · have g1 : decide (at_ < 0) = true := decide_eq_true h1
        go_enter Try.func37, Try.ntmps37
        go_wp2_with fail
        go_ret
        exact hfin.out
      · have g1 : decide (at_ < 0) = false := decide_eq_false h1
        have g2 : decide ((bs.length : Int) ≤ at_) = true := decide_eq_true (by omega)
        go_enter Try.func37, Try.ntmps37
        go_wp2_with fail
        go_ret
        exact hfin.out
    · have g1 : decide (at_ < 0) = false := decide_eq_false (by omega)
      have g2 : decide ((bs.length : Int) ≤ at_) = false := decide_eq_false (by omega)
      by_cases h64 : data.size = 64
      · have hws : Hid (R = (if thF fuse false = true then 0 else 7, ⟨bs, ps ++ [⟨at_, data⟩], thN fuse, decide (fuse = 0) || false⟩)) := hidI (by
          rw [HR.out]; unfold wrS usF; simp [hu, h64])
        obtain ⟨A2, c2, rfl, _⟩ := h.pend.slice_
        have HD := hidI h
        have g3 : ((data.size : Int) == 64) = true := by rw [h64]; rfl
        clear hu h64 h
        have hf : -9223372036854775808 ≤ fuse ∧ fuse ≤ 9223372036854775807 := hf
        have hl : ps.length ≤ 5000000000000 := hl
        go_enter Try.func37, Try.ntmps37
        obtain ⟨i0, hi0, hz0, hz1, hz2⟩ := info_parts info140
        have NE : some d ≠ (Value.slice A2 ps.length c2).ownBlock := Ne.symm (HD.out.pend.ne HD.out.blk (by decide))
        have hO := HD.out.pend.below (below_new (Below.refl w.heap.size w) (.cells #[.int .i64 at_, .string data] 140))
        have hRd : Reads (w.alloc (.cells #[.int .i64 at_, .string data] 140)) (w.heap.size + 1) 2 (some ⟨w.heap.size, 0, none⟩) 1 [.int .i64 at_, .string data] := ⟨rfl, fun _ => ⟨_, rfl, Nat.lt_succ_self _, fun j q hj => by
          have h2 := Blk.c (Blk.new' (w := w) (b := w.heap.size) (cs := #[.int .i64 at_, .string data]) (T := 140) rfl)
          rw [Kp.add_plain', Nat.zero_add, h2]
          simpa using hj⟩⟩
        go_wp2_with (at_builtin; refine wpList_append_any _ rfl (.tmp 30) (.tmp 34) 63 rfl base 140 i0 (.agg #[.int .i64 0, .string ⟨#[]⟩]) 2 24 Try.underlying63 hi0 hz0 hz1 hz2 rfl (by decide) (.slice A2 ps.length c2) ps.length (ps.flatMap Wr.l) rfl hO (w.heap.size + 1) (some ⟨w.heap.size, 0, none⟩) 1 1 [.int .i64 at_, .string data] rfl hRd ?a1 ?aM ?aB ?aS ?_; (case a1 => intro q hq; simp only [List.mem_cons, List.not_mem_nil, or_false] at hq; rcases hq with rfl | rfl <;> rfl); (case aM => simp only [maxLen]; omega); (case aB => omega); (case aS => simp; omega); intro v5 w5 hown hg hat; have hO5 := Go.Proofs.Kq.Own.snoc (p := (⟨at_, data⟩ : Wr)) hown; obtain ⟨A5, c5, rfl, _⟩ := hO5.slice_; have hB5 := Blk.gb (HD.out.blk.al (.cells #[.int .i64 at_, .string data] 140)) hg NE; have c5' := hB5.c; have l5' := hB5.lt; have f5' := hB5.f; clear hown hO)
        have e1 : (ps ++ [(⟨at_, data⟩ : Wr)]).length = ps.length + 1 := by simp
        rw [e1] at hO5
        have hD6 : Et (w5.setCell ⟨d, 1, none⟩ (.slice A5 (ps.length + 1) c5)) base d (.slice A1 bs.length c1) (.slice A5 (ps.length + 1) c5) bs (ps ++ [⟨at_, data⟩]) fuse false := by
          refine ⟨hB5.st 1 _, ?_, hO5.far (p := ⟨d, 1, none⟩) (hO5.ne hB5 (by decide)) _⟩
          refine Go.Proofs.Kq.Own.far (p := ⟨d, 1, none⟩) (v := .slice A1 bs.length c1) ?_ (HD.out.own.ne HD.out.blk (by decide)) _
          refine Go.Proofs.Kq.Own.kept (w := w) HD.out.own (fun k hk => ?_)
          have hlt := HD.out.own.lt hk
          have h2 : (w.alloc (.cells #[.int .i64 at_, .string data] 140)).heap[k]? = w.heap[k]? := Below.heap_alloc w _ k hlt
          rw [← h2]
          exact hg.block k (by simp; omega) (fun e => HD.out.own.ne_own HD.out.pend (by decide) k hk e.symm)
        have hF6 : Fr (ES d (.slice A1 bs.length c1) (.slice A2 ps.length c2)) w (w5.setCell ⟨d, 1, none⟩ (.slice A5 (ps.length + 1) c5)) :=
          (((Fr.refl _ w).alloc _).grown hg (fun b e _ => .inr (.inr e))).setCell (fun _ => .inl rfl) _
        have hP6 : ∀ k, ES d (.slice A1 bs.length c1) (.slice A5 (ps.length + 1) c5) k → ES d (.slice A1 bs.length c1) (.slice A2 ps.length c2) k ∨ w.heap.size ≤ k := by
          rintro k (h | h | h)
          · exact .inl (.inl h)
          · exact .inl (.inr (.inl h))
          · rcases hat with h2 | h2
            · exact .inl (.inr (.inr (by rw [← h2, e1]; exact h)))
            · right
              rw [e1] at h2
              rw [h2] at h
              have : k = w.heap.size + 1 := by simpa using h.symm
              omega
        have HD6 := hidI hD6
        have HF6 := hidI hF6
        have HP6 := hidI hP6
        have hT := rthing_any base d (.slice A1 bs.length c1) _ bs _ fuse false _ hD6 hf
        clear hD6 hF6 hP6 hO5 hB5 hat hg NE hRd c0 l0 f0 c5' l5' f5'
        generalize w5.setCell ⟨d, 1, none⟩ (.slice A5 (ps.length + 1) c5) = w6 at *
        with_reducible refine hT.mono ?_
        rintro e w7 ⟨rfl, hD7, hF7⟩
        have hfin0 : RuP base d (.slice A1 bs.length c1) (.slice A2 ps.length c2) (.returned (.int .i64 R.1)) R.2 w (.returned (.int .i64 R.1)) w7 := by
          refine ⟨rfl, .slice A5 (ps.length + 1) c5, ?_, HF6.out.trans hF7 (fun b _ e => .inl e), HP6.out⟩
          rw [hws.out]; exact hD7
        clear hT hD7 hF7
        simp only []
        cases hth : decide (fuse = 0)
        · have hfin : Hid (RuP base d (.slice A1 bs.length c1) (.slice A2 ps.length c2) (.returned (.int .i64 R.1)) R.2 w (.returned (.int .i64 0)) w7) := hidI (by
            have e : R.1 = 0 := by rw [hws.out]; unfold thF; rw [hth]; rfl
            rw [e] at hfin0 ⊢; exact hfin0)
          clear hfin0 hth
          go_wp2_with fail
          go_ret
          exact hfin.out
        · have hfin : Hid (RuP base d (.slice A1 bs.length c1) (.slice A2 ps.length c2) (.returned (.int .i64 R.1)) R.2 w (.returned (.int .i64 7)) w7) := hidI (by
            have e : R.1 = 7 := by rw [hws.out]; unfold thF; rw [hth]; rfl
            rw [e] at hfin0 ⊢; exact hfin0)
          clear hfin0 hth
          go_wp2_with fail
          go_ret
          exact hfin.out
      · have hws : Hid (R = (1, ⟨bs, ps, fuse, false⟩)) := hidI (by
          rw [HR.out]; unfold wrS usF; simp [hu, h64])
        have g3 : ((data.size : Int) == 64) = false := beq_eq_false_iff_ne.mpr (by omega)
        have hfin : Hid (RuP base d (.slice A1 bs.length c1) v2 (.returned (.int .i64 R.1)) R.2 w (.returned (.int .i64 1)) w) := hidI (by rw [hws.out]; exact RuP.same h)
        clear h
        go_enter Try.func37, Try.ntmps37
        go_wp2_with fail
        go_ret
        exact hfin.out
  · have hws : Hid (R = (7, ⟨bs, ps, fuse, true⟩)) := hidI (by rw [HR.out]; rfl)
    have hfin : Hid (RuP base d (.slice A1 bs.length c1) v2 (.returned (.int .i64 R.1)) R.2 w (.returned (.int .i64 7)) w) := hidI (by rw [hws.out]; exact RuP.same h)
    clear h
    go_enter Try.func37, Try.ntmps37
    go_wp2_with fail
    go_ret
    exact hfin.out
end Go.Proofs.Ytckfkbmefdmedaa
namespace Go.Proofs.Ytckfkbmefdmedaa
open Go.RowKit Go.Proofs.Kq
open Go.Proofs.YtckfkbmefdmedaaW.PrintWords (pw_cell_below Kd Kd.C Kd.C_below)
set_option linter.unusedVariables false
set_option linter.unusedSimpArgs false
theorem fail_any (base d : Nat) (v1 v2 : Value) (s : DkS) (n : Int) (w : World) (h : DT w base d v1 v2 s) :
    Calls Try.prog 30 #[.pointer (some ⟨d, 0, none⟩), .int .i64 n] w (MuP base d v1 v2 (.returned (.tuple #[])) ⟨s.bs, s.ps, n, s.dead⟩ w) := by
  have hfin : Hid (MuP base d v1 v2 (.returned (.tuple #[])) ⟨s.bs, s.ps, n, s.dead⟩ w (.returned (.tuple #[])) (w.setCell ⟨d, 2, none⟩ (.int .i64 n))) := hidI
    ⟨rfl, v2, h.st.1 n, (Fr.refl _ _).setCell (fun _ => .inl rfl) _, fun k hk => .inl hk⟩
  have c0 := h.blk.c; have l0 := h.blk.lt; have f0 := h.blk.f
  clear h
  go_enter Try.func30, Try.ntmps30
  go_wp2
  refine bodyPost_end (results_none rfl _ _ _) rfl ?_
  exact hfin.out
theorem len_any (base d : Nat) (v1 v2 : Value) (s : DkS) (w : World) (h : DT w base d v1 v2 s) :
    Calls Try.prog 33 #[.pointer (some ⟨d, 0, none⟩)] w fun e w' => e = .returned (.int .i64 s.bs.length) ∧ w' = w := by
  obtain ⟨A, c, rfl, _⟩ := h.own.slice_
  have c0 := h.blk.c; have l0 := h.blk.lt; have f0 := h.blk.f
  clear h
  go_enter Try.func33, Try.ntmps33
  go_wp2
  go_ret
  exact ⟨rfl, rfl⟩
theorem dead_any (base d : Nat) (v1 v2 : Value) (s : DkS) (w : World) (h : DT w base d v1 v2 s) :
    Calls Try.prog 34 #[.pointer (some ⟨d, 0, none⟩)] w fun e w' => e = .returned (.bool s.dead) ∧ w' = w := by
  have c0 := h.blk.c; have l0 := h.blk.lt; have f0 := h.blk.f
  clear h
  go_enter Try.func34, Try.ntmps34
  go_wp2
  go_ret
  exact ⟨rfl, rfl⟩
end Go.Proofs.Ytckfkbmefdmedaa
namespace Go.Proofs.Ytckfkbmefdmedaa
open Go.RowKit Go.Proofs.Kq
open Go.Proofs.YtckfkbmefdmedaaW.PrintWords (pw_cell_below Kd Kd.C Kd.C_below encs)
set_option linter.unusedVariables false
set_option linter.unusedSimpArgs false
theorem strs_encs (bs : List ByteArray) : bs.flatMap sl = encs Value.string bs := by
  unfold sl encs
  rw [List.map_eq_flatMap]
def ClP (bs : List ByteArray) (w : World) (e : Ending) (w' : World) : Prop := ∃ v, e = .returned v ∧ Strs w' w.heap.size v bs ∧ Below w.heap.size w w'
set_option maxRecDepth 100000 in
set_option maxHeartbeats 1000000 in
theorem clone_own (base : Nat) (v : Value) (bs : List ByteArray) (w : World) (h : Strs w base v bs) (hl : bs.length ≤ 1000000) : Calls Try.prog 18 #[v] w (ClP bs w) := by
  rcases h.cases_ with ⟨rfl, rfl⟩ | ⟨b, c, rfl, hc, hm, hb, hlt⟩
  · have he := fun w => Lib.run_eql_slice_nil (P := Try.prog) w 22 9 none 0 0 0 0 Try.underlying22
    have hfin : Hid (ClP [] w (.returned (.slice none 0 0)) w) := hidI ⟨_, rfl, Go.Proofs.Kq.Own.nil _ _ _ _ _, Below.refl _ _⟩
    clear h
    go_enter Try.func18, Try.ntmps18
    go_wp2
    go_ret
    exact hfin.out
  · obtain ⟨i0, hi, hz0, hz1, hz2⟩ := info_parts info9s
    have hR : Reads w w.heap.size 1 (some ⟨b, 0, none⟩) bs.length (bs.flatMap sl) := Reads.of_own h
    have he := fun w => Lib.run_eql_slice_nil (P := Try.prog) w 22 9 (some ⟨b, 0, none⟩) bs.length c 0 0 Try.underlying22
    clear h
    go_enter Try.func18, Try.ntmps18
    go_wp2_with (at_builtin; refine wpList_append_any _ rfl (.tmp 5) (.tmp 6) 22 rfl w.heap.size 9 i0 (.string ⟨#[]⟩) 1 16 Try.underlying22 hi hz0 hz1 hz2 rfl (by decide) (.slice (some ⟨w.heap.size, 0, none⟩) 0 0) 0 [] rfl ?aO w.heap.size (some ⟨b, 0, none⟩) bs.length c (bs.flatMap sl) rfl ?aR (flat_one sl_one bs) ?aM ?aB ?aS ?_; (case aO => exact ⟨rfl, .inr ⟨w.heap.size, 0, #[], rfl, Nat.le_refl _, by (show (w.heap.push _)[w.heap.size]? = _; simp), Nat.le_refl _, by decide, rfl, rfl⟩⟩); (case aR => exact hR.alloc (Nat.le_refl _) _); (case aM => simp only [maxLen]; omega); (case aB => omega); (case aS => simp); intro v1 w1 hown hg hat)
    go_ret
    exact ⟨_, rfl, by simpa [Go.Proofs.Kq.Own] using hown, (below_new (Below.refl _ _) _).grown hg (by simp) (fun k hk => by cases hk; exact Nat.le_refl _)⟩
theorem all_any (base d : Nat) (v1 v2 : Value) (s : DkS) (w : World) (h : DT w base d v1 v2 s) (hl : s.bs.length ≤ 1000000) :
    Calls Try.prog 28 #[.pointer (some ⟨d, 0, none⟩)] w (ClP s.bs w) := by
  have c0 := h.blk.c; have l0 := h.blk.lt; have f0 := h.blk.f
  have hc := clone_own base v1 s.bs w h.own hl
  clear h
  go_enter Try.func28, Try.ntmps28
  go_wp2_with fail
  with_reducible refine hc.mono ?_
  rintro e w1 ⟨v, rfl, hO, hb⟩
  have hfin : Hid (ClP s.bs w (.returned v) w1) := hidI ⟨v, rfl, hO, hb⟩
  clear hO hb hc
  simp only []
  go_wp2_with fail
  go_ret
  exact hfin.out
end Go.Proofs.Ytckfkbmefdmedaa
namespace Go.Proofs.Ytckfkbmefdmedaa
open Go.RowKit Go.Proofs.Kq
open Go.Proofs.YtckfkbmefdmedaaW.PrintWords (pw_cell_below Kd Kd.C Kd.C_below encs)
set_option linter.unusedVariables false
set_option linter.unusedSimpArgs false
def setAll (bs : List ByteArray) (l : List Wr) : List ByteArray := l.foldl (fun b p => b.set p.at_.toNat p.data) bs
theorem setAll_len : ∀ (l : List Wr) (bs : List ByteArray), (setAll bs l).length = bs.length
  | [], bs => rfl
  | p :: l, bs => by show (setAll (bs.set _ _) l).length = _; rw [setAll_len l]; simp
theorem setAll_snoc (bs : List ByteArray) (l : List Wr) (p : Wr) : setAll bs (l ++ [p]) = (setAll bs l).set p.at_.toNat p.data := by simp [setAll]
def inB (n : Nat) (ps : List Wr) : Prop := ∀ p ∈ ps, 0 ≤ p.at_ ∧ p.at_ < n
def syS (s : DkS) : Int × DkS :=
  if s.dead = true then (7, s)
  else if thF s.fuse s.dead = true then (0, ⟨setAll s.bs s.ps, [], thN s.fuse, decide (s.fuse = 0) || s.dead⟩)
  else (7, ⟨s.bs, s.ps, thN s.fuse, decide (s.fuse = 0) || s.dead⟩)
theorem wr_at {w : World} {base b c : Nat} {ps : List Wr} (h : Wrs w base (.slice (some ⟨b, 0, none⟩) ps.length c) ps) (k : Nat) (hk : k < ps.length) :
    w.cell? ⟨b, k * 2, none⟩ = some (.int .i64 ps[k].at_) ∧ w.cell? ⟨b, k * 2 + 1, none⟩ = some (.string ps[k].data) := by
  rcases h.2 with ⟨e, _⟩ | ⟨g, cap, cur, e, hg, hh, hn, hm, hcs, hcur⟩
  · cases e
  · cases e
    have gt : ∀ j u, (Wr.l ps[k])[j]? = some u → w.cell? ⟨b, k * 2 + j, none⟩ = some u := by
      intro j u hu
      have := Kp.flat_get wr_len hu ps k (List.getElem?_eq_getElem hk)
      rw [← hcur, List.getElem?_take] at this
      split at this
      · simp only [World.cell?, hh, Option.isSome_none, Bool.false_eq_true, if_false]
        rw [← Array.getElem?_toList]; exact this
      · cases this
    exact ⟨gt 0 _ rfl, gt 1 _ rfl⟩
theorem str_at {w : World} {base b c : Nat} {bs : List ByteArray} (h : Strs w base (.slice (some ⟨b, 0, none⟩) bs.length c) bs) (k : Nat) (hk : k < bs.length) :
    w.cell? ⟨b, k, none⟩ = some (.string bs[k]) ∧ w.frozen? ⟨b, k, none⟩ = false := by
  rcases h.2 with ⟨e, _⟩ | ⟨g, cap, cur, e, hg, hh, hn, hm, hcs, hcur⟩
  · cases e
  · cases e
    constructor
    · have := Kp.flat_get sl_len (i := 0) (u := .string bs[k]) rfl bs k (List.getElem?_eq_getElem hk)
      rw [← hcur, List.getElem?_take] at this
      split at this
      · simp only [World.cell?, hh, Option.isSome_none, Bool.false_eq_true, if_false]
        rw [← Array.getElem?_toList]; simpa using this
      · cases this
    · simp [World.frozen?, hh]
theorem str_set {w : World} {base b c : Nat} {bs : List ByteArray} (h : Strs w base (.slice (some ⟨b, 0, none⟩) bs.length c) bs) (k : Nat) (z : ByteArray) :
    Strs (w.setCell ⟨b, k, none⟩ (.string z)) base (.slice (some ⟨b, 0, none⟩) bs.length c) (bs.set k z) := by
  have h0 : w.ownsRow base 9 1 (.slice (some ⟨b, 0, none⟩) bs.length c) bs.length (encs Value.string bs) := by rw [← strs_encs]; exact h
  have h1 := (Go.Proofs.YtckfkbmefdmedaaW.PrintWords.Kd.R_put (enc := Value.string) (h1 := fun _ => rfl) (ok := fun _ => True) (Go.Proofs.YtckfkbmefdmedaaW.PrintWords.Kd.R_of_own h0 (fun _ _ => trivial)) (k : Int) z).1
  have h2 := Go.Proofs.YtckfkbmefdmedaaW.PrintWords.Kd.own_of_R h1
  rw [Int.toNat_natCast] at h2
  unfold Strs Go.Proofs.Kq.Own
  rw [strs_encs]
  exact h2
theorem Dt.put {w : World} {base d b c : Nat} {v2 : Value} {bs : List ByteArray} {ps : List Wr} {fuse : Int} {dead : Bool} (h : Dt w base d (.slice (some ⟨b, 0, none⟩) bs.length c) v2 bs ps fuse dead) (k : Nat) (z : ByteArray) :
    Dt (w.setCell ⟨b, k, none⟩ (.string z)) base d (.slice (some ⟨b, 0, none⟩) bs.length c) v2 (bs.set k z) ps fuse dead := by
  have n1 : d ≠ b := fun e => h.own.ne h.blk (by decide) (by rw [e]; rfl)
  have n2 : v2.ownBlock ≠ some b := fun e => h.own.ne_own h.pend (by decide) b rfl e
  exact ⟨h.blk.so n1, str_set h.own k z, h.pend.far (p := ⟨b, k, none⟩) n2 _⟩
set_option maxHeartbeats 2000000 in
set_option maxRecDepth 100000 in
theorem sync_any (base d : Nat) (v1 v2 : Value) (s : DkS) (w : World) (h : DT w base d v1 v2 s) (hf : -9223372036854775808 ≤ s.fuse ∧ s.fuse ≤ 9223372036854775807) (hl : s.ps.length ≤ 5000000000000) (hin : inB s.bs.length s.ps) :
    Calls Try.prog 27 #[.pointer (some ⟨d, 0, none⟩)] w (MuP base d v1 v2 (.returned (.int .i64 (syS s).1)) (syS s).2 w) := by
  obtain ⟨bs, ps, fuse, dead⟩ := s
  obtain ⟨R, hR⟩ : ∃ R, R = syS ⟨bs, ps, fuse, dead⟩ := ⟨_, rfl⟩
  rw [← hR]
  have HR := hidI hR
  clear hR
  have c0 := h.blk.c; have l0 := h.blk.lt; have f0 := h.blk.f
  cases dead
  · have hT := thing_any base d v1 v2 bs ps fuse false w h hf
    clear h
    go_enter Try.func27, Try.ntmps27
    go_wp2_with fail
    with_reducible refine hT.mono ?_
    rintro e w1 ⟨rfl, hD1, hF1⟩
    simp only []
    have HD1 := hidI hD1
    have HF1 := hidI hF1
    clear hT hD1 hF1 c0 l0 f0
    cases hth : thF fuse false
    · have hfin : Hid (MuP base d v1 v2 (.returned (.int .i64 R.1)) R.2 w (.returned (.int .i64 7)) w1) := hidI (by
        have e1 : R = (7, ⟨bs, ps, thN fuse, decide (fuse = 0) || false⟩) := by rw [HR.out]; unfold syS; simp [hth]
        rw [e1]
        exact ⟨rfl, v2, HD1.out, HF1.out.mono (fun b _ e => .inl e), fun k hk => .inl hk⟩)
      clear hth
      go_wp2_with fail
      go_ret
      exact hfin.out
    · have hRe : Hid (R = (0, ⟨setAll bs ps, [], thN fuse, decide (fuse = 0) || false⟩)) := hidI (by rw [HR.out]; unfold syS; simp [hth])
      clear hth
      generalize thN fuse = fuse2 at *
      generalize (decide (fuse = 0) || false) = dead2 at *
      have c1 := HD1.out.blk.c; have l1 := HD1.out.blk.lt; have f1 := HD1.out.blk.f
      obtain ⟨A2, c2, rfl, _⟩ := HD1.out.pend.slice_
      go_wp2_with fail
      go_loopw [23] (fun i wr => ∃ k : Nat, k ≤ ps.length ∧ i = .int .i64 k ∧ Hid (Dt wr base d v1 (.slice A2 ps.length c2) (setAll bs (ps.take k)) ps fuse2 dead2 ∧ Fr (DS d v1 (.slice A2 ps.length c2)) w wr)) (fun i _ => ps.length - (intOf i).toNat)
      case atStart => exact ⟨0, Nat.zero_le _, rfl, hidI ⟨HD1.out, HF1.out.mono (fun b _ e => .inl e)⟩⟩
      case round =>
        obtain ⟨k, hk, rfl, hI⟩ := hrel
        by_cases hlt : k < ps.length
        · have h0 : 0 < bs.length := by have := (hin ps[k] (List.getElem_mem hlt)); omega
          have hlt' : decide ((k : Int) < (ps.length : Int)) = true := decide_eq_true (by omega)
          obtain ⟨b2, rfl⟩ : ∃ b2, A2 = some ⟨b2, 0, none⟩ := by
            rcases hI.out.1.pend.cases_ with ⟨e, h⟩ | ⟨b, c, e, _⟩
            · rw [h] at hlt; simp at hlt
            · injection e with e1; exact ⟨b, e1⟩
          obtain ⟨q0, q1⟩ := wr_at hI.out.1.pend k hlt
          obtain ⟨m, hm⟩ : ∃ m : Nat, ps[k].at_ = (m : Int) := ⟨ps[k].at_.toNat, by have := (hin ps[k] (List.getElem_mem hlt)); omega⟩
          have hmb : m < bs.length := by have := (hin ps[k] (List.getElem_mem hlt)); omega
          obtain ⟨z, hz⟩ : ∃ z, z = ps[k].data := ⟨_, rfl⟩
          rw [hm] at q0
          rw [← hz] at q1
          have hst : Hid (setAll bs (ps.take (k + 1)) = (setAll bs (ps.take k)).set m z) := hidI (by
            rw [List.take_succ_eq_append_getElem hlt, setAll_snoc, hm, ← hz, Int.toNat_natCast])
          clear hm hz
          obtain ⟨b1, c3, rfl⟩ : ∃ b1 c3, v1 = .slice (some ⟨b1, 0, none⟩) bs.length c3 := by
            rcases HD1.out.own.cases_ with ⟨e, h⟩ | ⟨b, c, e, _⟩
            · rw [h] at h0; simp at h0
            · exact ⟨b, c, e⟩
          have hbw := below_new (Below.refl wr.heap.size wr) (.cells #[.int .i64 (m : Int), .string z] 135)
          have hD' := hI.out.1.below hbw
          have hF' : Fr (DS d (.slice (some ⟨b1, 0, none⟩) bs.length c3) (.slice (some ⟨b2, 0, none⟩) ps.length c2)) w _ := hI.out.2.below hbw
          have hsl : (setAll bs (ps.take k)).length = bs.length := setAll_len _ _
          rw [← hsl] at hD'
          have hat := str_at hD'.own m (by omega)
          obtain ⟨zo, qs⟩ : ∃ zo : ByteArray, (wr.alloc (.cells #[.int .i64 (m : Int), .string z] 135)).cell? ⟨b1, m, none⟩ = some (.string zo) := ⟨_, hat.1⟩
          have qf := hat.2
          have hput := hD'.put m z
          rw [← hst.out, hsl] at hput
          rw [hsl] at hD'
          have cd := hD'.blk.c; have ld := hD'.blk.lt; have fd := hD'.blk.f
          have hBn : Blk (wr.alloc (.cells #[.int .i64 (m : Int), .string z] 135)) wr.heap.size #[.int .i64 (m : Int), .string z] 135 := Blk.new' rfl
          have cn := hBn.c; have ln := hBn.lt; have fn := hBn.f
          have HN := hidI (And.intro hput (hF'.setCell (p := ⟨b1, m, none⟩) (fun _ => .inr (.inl rfl)) (.string z)))
          have hmb' : decide ((m : Int) < (bs.length : Int)) = true := decide_eq_true (by omega)
          clear hD' hF' hput hat hBn hsl hst hbw
          go_wp2_with fail
          generalize wr.alloc (.cells #[.int .i64 (m : Int), .string z] 135) = wx at *
          go_region
          go_wp2_with fail
          go_roundw
          · exact ⟨k + 1, by omega, by simp, hidI ⟨⟨HN.out.1.blk.dr, HN.out.1.own.drew, HN.out.1.pend.drew⟩, HN.out.2.drew⟩⟩
          · simp [intOf]; omega
        · have hlt' : decide ((k : Int) < (ps.length : Int)) = false := decide_eq_false (by omega)
          have hD := hI.out.1
          rw [List.take_of_length_le (by omega)] at hD
          have hfin : Hid (MuP base d v1 (.slice A2 ps.length c2) (.returned (.int .i64 R.1)) R.2 w (.returned (.int .i64 0)) (wr.setCell ⟨d, 1, none⟩ (.slice none 0 0))) := hidI (by
            rw [hRe.out]
            refine ⟨rfl, .slice none 0 0, ⟨hD.blk.st 1 _, hD.own.far (p := ⟨d, 1, none⟩) (hD.own.ne hD.blk (by decide)) _, Go.Proofs.Kq.Own.nil _ _ _ _ _⟩, hI.out.2.setCell (fun _ => .inl rfl) _, ?_⟩
            rintro q (h | h | h)
            · exact .inl (.inl h)
            · exact .inl (.inr (.inl h))
            · cases h)
          have cd := hD.blk.c; have ld := hD.blk.lt; have fd := hD.blk.f
          clear hD
          go_wp2_with fail
          go_ret
          exact hfin.out
  · have hfin : Hid (MuP base d v1 v2 (.returned (.int .i64 R.1)) R.2 w (.returned (.int .i64 7)) w) := hidI (by
      have e1 : R = (7, ⟨bs, ps, fuse, true⟩) := by rw [HR.out]; rfl
      rw [e1]; exact MuP.same h)
    clear h
    go_enter Try.func27, Try.ntmps27
    go_wp2
    go_ret
    exact hfin.out
end Go.Proofs.Ytckfkbmefdmedaa
namespace Go.Proofs.Ytckfkbmefdmedaa
open Go.RowKit Go.Proofs.Kq
open Go.Proofs.YtckfkbmefdmedaaW.PrintWords (pw_cell_below Kd Kd.C Kd.C_below encs)
set_option linter.unusedVariables false
set_option linter.unusedSimpArgs false
theorem wre_at {w : World} {base b c : Nat} {ps : List Wr} (h : Wre w base (.slice (some ⟨b, 0, none⟩) ps.length c) ps) (k : Nat) (hk : k < ps.length) :
    w.cell? ⟨b, k * 2, none⟩ = some (.int .i64 ps[k].at_) ∧ w.cell? ⟨b, k * 2 + 1, none⟩ = some (.string ps[k].data) := by
  rcases h.2 with ⟨e, _⟩ | ⟨g, cap, cur, e, hg, hh, hn, hm, hcs, hcur⟩
  · cases e
  · cases e
    have gt : ∀ j u, (Wr.l ps[k])[j]? = some u → w.cell? ⟨b, k * 2 + j, none⟩ = some u := by
      intro j u hu
      have := Kp.flat_get wr_len hu ps k (List.getElem?_eq_getElem hk)
      rw [← hcur, List.getElem?_take] at this
      split at this
      · simp only [World.cell?, hh, Option.isSome_none, Bool.false_eq_true, if_false]
        rw [← Array.getElem?_toList]; exact this
      · cases this
    exact ⟨gt 0 _ rfl, gt 1 _ rfl⟩
theorem Et.put {w : World} {base d b c : Nat} {v2 : Value} {bs : List ByteArray} {ps : List Wr} {fuse : Int} {dead : Bool} (h : Et w base d (.slice (some ⟨b, 0, none⟩) bs.length c) v2 bs ps fuse dead) (k : Nat) (z : ByteArray) :
    Et (w.setCell ⟨b, k, none⟩ (.string z)) base d (.slice (some ⟨b, 0, none⟩) bs.length c) v2 (bs.set k z) ps fuse dead := by
  have n1 : d ≠ b := fun e => h.own.ne h.blk (by decide) (by rw [e]; rfl)
  have n2 : v2.ownBlock ≠ some b := fun e => h.own.ne_own h.pend (by decide) b rfl e
  exact ⟨h.blk.so n1, str_set h.own k z, h.pend.far (p := ⟨b, k, none⟩) n2 _⟩
set_option maxHeartbeats 2000000 in
set_option maxRecDepth 100000 in
theorem rsync_any (base d : Nat) (v1 v2 : Value) (s : DkS) (w : World) (h : ET w base d v1 v2 s) (hf : -9223372036854775808 ≤ s.fuse ∧ s.fuse ≤ 9223372036854775807) (hl : s.ps.length ≤ 5000000000000) (hin : inB s.bs.length s.ps) :
    Calls Try.prog 38 #[.pointer (some ⟨d, 0, none⟩)] w (RuP base d v1 v2 (.returned (.int .i64 (syS s).1)) (syS s).2 w) := by
  obtain ⟨bs, ps, fuse, dead⟩ := s
  have hf : -9223372036854775808 ≤ fuse ∧ fuse ≤ 9223372036854775807 := hf
  have hl : ps.length ≤ 5000000000000 := hl
  have hin : inB bs.length ps := hin
  obtain ⟨R, hR⟩ : ∃ R, R = syS ⟨bs, ps, fuse, dead⟩ := ⟨_, rfl⟩
  rw [← hR]
  have HR := hidI hR
  clear hR
  have c0 := h.blk.c; have l0 := h.blk.lt; have f0 := h.blk.f
  cases dead
  · have hT := rthing_any base d v1 v2 bs ps fuse false w h hf
    clear h
    go_enter Try.func38, Try.ntmps38
    go_wp2_with fail
    with_reducible refine hT.mono ?_
    rintro e w1 ⟨rfl, hD1, hF1⟩
    simp only []
    have HD1 := hidI hD1
    have HF1 := hidI hF1
    clear hT hD1 hF1 c0 l0 f0
    cases hth : decide (fuse = 0)
    · have hRe : Hid (R = (0, ⟨setAll bs ps, [], thN fuse, false⟩)) := hidI (by rw [HR.out]; unfold syS thF; simp [hth])
      rw [hth] at HD1
      clear hth
      generalize thN fuse = fuse2 at *
      obtain ⟨A2, c2, rfl, _⟩ := HD1.out.pend.slice_
      go_wp2_with fail
      go_loopw [4] (fun i wr => ∃ k : Nat, k ≤ ps.length ∧ i = .int .i64 k ∧ Hid (Et wr base d v1 (.slice A2 ps.length c2) (setAll bs (ps.take k)) ps fuse2 false ∧ Fr (ES d v1 (.slice A2 ps.length c2)) w wr)) (fun i _ => ps.length - (intOf i).toNat)
      case atStart => exact ⟨0, Nat.zero_le _, rfl, hidI ⟨HD1.out, HF1.out.mono (fun b _ e => .inl e)⟩⟩
      case round =>
        obtain ⟨k, hk, rfl, hI⟩ := hrel
        have cd := hI.out.1.blk.c; have ld := hI.out.1.blk.lt; have fd := hI.out.1.blk.f
        by_cases hlt : k < ps.length
        · have hin1 := hin ps[k] (List.getElem_mem hlt)
          have h0 : 0 < bs.length := by omega
          have hlt' : decide ((k : Int) < (ps.length : Int)) = true := decide_eq_true (by omega)
          obtain ⟨b2, rfl⟩ : ∃ b2, A2 = some ⟨b2, 0, none⟩ := by
            rcases hI.out.1.pend.cases_ with ⟨e, h⟩ | ⟨b, c, e, _⟩
            · rw [h] at hlt; simp at hlt
            · injection e with e1; exact ⟨b, e1⟩
          obtain ⟨q0, q1⟩ := wre_at hI.out.1.pend k hlt
          obtain ⟨m, hm⟩ : ∃ m : Nat, ps[k].at_ = (m : Int) := ⟨ps[k].at_.toNat, by omega⟩
          have hmb : m < bs.length := by omega
          obtain ⟨z, hz⟩ : ∃ z, z = ps[k].data := ⟨_, rfl⟩
          rw [hm] at q0
          rw [← hz] at q1
          have hst : setAll bs (ps.take (k + 1)) = (setAll bs (ps.take k)).set m z := by
            rw [List.take_succ_eq_append_getElem hlt, setAll_snoc, hm, ← hz, Int.toNat_natCast]
          obtain ⟨b1, c3, rfl⟩ : ∃ b1 c3, v1 = .slice (some ⟨b1, 0, none⟩) bs.length c3 := by
            rcases HD1.out.own.cases_ with ⟨e, h⟩ | ⟨b, c, e, _⟩
            · have h : bs = [] := h
              rw [h] at h0; simp at h0
            · exact ⟨b, c, e⟩
          have hD' := hI.out.1
          have hsl : (setAll bs (ps.take k)).length = bs.length := setAll_len _ _
          rw [← hsl] at hD'
          have hat := str_at hD'.own m (by omega)
          obtain ⟨zo, qs⟩ : ∃ zo : ByteArray, wr.cell? ⟨b1, m, none⟩ = some (.string zo) := ⟨_, hat.1⟩
          have qf := hat.2
          have hput := hD'.put m z
          rw [← hst, hsl] at hput
          have HN := hidI (And.intro hput (hI.out.2.setCell (p := ⟨b1, m, none⟩) (fun _ => .inr (.inl rfl)) (.string z)))
          have hmb' : decide ((m : Int) < (bs.length : Int)) = true := decide_eq_true (by omega)
          clear hD' hput hat hst hsl hm hz hin1
          go_wp2_with fail
          go_region
          go_wp2_with fail
          go_roundw
          · exact ⟨k + 1, by omega, by simp, hidI ⟨⟨HN.out.1.blk.dr, HN.out.1.own.drew, HN.out.1.pend.drew⟩, HN.out.2.drew⟩⟩
          · simp [intOf]; omega
        · have hlt' : decide ((k : Int) < (ps.length : Int)) = false := decide_eq_false (by omega)
          have hD := hI.out.1
          rw [List.take_of_length_le (by omega)] at hD
          have hfin : Hid (RuP base d v1 (.slice A2 ps.length c2) (.returned (.int .i64 R.1)) R.2 w (.returned (.int .i64 0)) (wr.setCell ⟨d, 1, none⟩ (.slice none 0 0))) := hidI (by
            rw [hRe.out]
            refine ⟨rfl, .slice none 0 0, ⟨hD.blk.st 1 _, hD.own.far (p := ⟨d, 1, none⟩) (hD.own.ne hD.blk (by decide)) _, Go.Proofs.Kq.Own.nil _ _ _ _ _⟩, hI.out.2.setCell (fun _ => .inl rfl) _, ?_⟩
            rintro q (h | h | h)
            · exact .inl (.inl h)
            · exact .inl (.inr (.inl h))
            · cases h)
          clear hD
          go_wp2_with fail
          go_ret
          exact hfin.out
    · have hfin : Hid (RuP base d v1 v2 (.returned (.int .i64 R.1)) R.2 w (.returned (.int .i64 7)) w1) := hidI (by
        have e1 : R = (7, ⟨bs, ps, thN fuse, decide (fuse = 0) || false⟩) := by rw [HR.out]; unfold syS thF; simp [hth]
        rw [e1]
        exact ⟨rfl, v2, HD1.out, HF1.out.mono (fun b _ e => .inl e), fun k hk => .inl hk⟩)
      clear hth
      go_wp2_with fail
      go_ret
      exact hfin.out
  · have hfin : Hid (RuP base d v1 v2 (.returned (.int .i64 R.1)) R.2 w (.returned (.int .i64 7)) w) := hidI (by
      have e1 : R = (7, ⟨bs, ps, fuse, true⟩) := by rw [HR.out]; rfl
      rw [e1]; exact RuP.same h)
    clear h
    go_enter Try.func38, Try.ntmps38
    go_wp2
    go_ret
    exact hfin.out
end Go.Proofs.Ytckfkbmefdmedaa
namespace Go.Proofs.Ytckfkbmefdmedaa
open Go.RowKit Go.Proofs.Kq Go.Shelf
set_option linter.unusedVariables false
set_option linter.unusedSimpArgs false
attribute [local go_sem] Oper.semAt_some
def bwAt (ps : List Wr) (j : Nat) : Int × Wr := (((ps.length - 1 - j : Nat) : Int), ps.getD (ps.length - 1 - j) ⟨0, ⟨#[]⟩⟩)
def bwU (ps : List Wr) (k : Nat) : List (Int × Wr) := (List.range k).map (bwAt ps)
theorem bwU_succ (ps : List Wr) (k : Nat) : bwU ps (k + 1) = bwU ps k ++ [bwAt ps k] := by simp [bwU, List.range_succ]
theorem bwU_len (ps : List Wr) (k : Nat) : (bwU ps k).length = k := by simp [bwU]
def encW (x : Int × Wr) : Array Value := #[.int .i64 x.1, .agg #[.int .i64 x.2.at_, .string x.2.data]]
set_option maxRecDepth 100000 in
set_option maxHeartbeats 2000000 in
theorem back1_in (F : Fence) (n : Nat) (h106 : F.fn 106) (hro : F.round = none) (hn : 1 ≤ n) (l Bs n₀ b cap : Nat) (ps : List Wr) (hlen : ps.length ≤ 5000000000000) (hb : b < n₀) (hBn : Bs < n₀) (J Jx : List (Int × Wr) → World → Prop)
    (hY : ∀ pre x W, J pre W → pre.length < ps.length → YieldAt F (n - 1) Try.prog l (encW x) W fun e W' =>
      (e = .returned (.bool true) ∧ J (pre ++ [x]) W' ∧ Below n₀ W W') ∨ (e = .returned (.bool false) ∧ Jx (pre ++ [x]) W'))
    (W : World) (hBs : W.cell? ⟨Bs, 0, none⟩ = some (.slice (some ⟨b, 0, none⟩) ps.length cap))
    (hc : ∀ (j : Nat) (hj : j < ps.length), W.cell? ⟨b, j * 2, none⟩ = some (.int .i64 ps[j].at_) ∧ W.cell? ⟨b, j * 2 + 1, none⟩ = some (.string ps[j].data)) (h0 : J [] W) :
    CallsIn F n Try.prog 106 #[.func (.yield l) #[] #[], .pointer (some ⟨Bs, 0, none⟩)] W fun e W' => (∃ v, e = .returned v) ∧
      ((∃ ys, ys = bwU ps ps.length ∧ J ys W') ∨ (∃ pre, (∃ k, k < ps.length ∧ pre = bwU ps (k + 1)) ∧ Jx pre W')) := by
  refine callsIn_of_wp Try.func106 rfl h106 ?_ hro
  simp only [Try.ntmps106, List.size_toArray, List.length_cons, List.length_nil, Nat.reduceAdd, Nat.reduceSub, Array.replicate_succ, Array.replicate_zero, List.push_toArray, List.append_toArray, List.nil_append, List.cons_append]
  gi_wp2
  gi_loopw [3] (fun i wr => ∃ k : Nat, k ≤ ps.length ∧ i = .int .i64 ((ps.length : Int) - 1 - k) ∧ J (bwU ps k) wr ∧ Below n₀ W wr)
    (fun i _ => (intOf i + 1).toNat)
  case atStart => exact ⟨0, Nat.zero_le _, by simp, h0, Below.refl _ _⟩
  case round =>
    obtain ⟨k, hk, rfl, hJs, hnx⟩ := hrel
    by_cases hlt : k < ps.length
    · obtain ⟨j, hj⟩ : ∃ j, j = ps.length - 1 - k := ⟨_, rfl⟩
      have hjl : j < ps.length := by omega
      have hjk : (ps.length : Int) - 1 - (k : Int) = (j : Int) := by omega
      have hbx : bwAt ps k = ((j : Int), ps[j]) := by
        unfold bwAt; rw [← hj, List.getD_eq_getElem?_getD, List.getElem?_eq_getElem hjl]; rfl
      have q := (hnx.cell (p := ⟨Bs, 0, none⟩) hBn).trans hBs
      have q0 := (hnx.cell (p := ⟨b, j * 2, none⟩) hb).trans (hc j hjl).1
      have q1 := (hnx.cell (p := ⟨b, j * 2 + 1, none⟩) hb).trans (hc j hjl).2
      obtain ⟨fn, tmps, assign, body, hy, hR⟩ := hY _ (bwAt ps k) wr hJs (by rw [bwU_len]; exact hlt)
      rw [hbx] at hy
      dsimp only [encW] at hy
      rw [hjk]
      have HJ := hidI hj
      clear hj hjk hbx
      have hj0 : decide ((j : Int) ≥ 0) = true := decide_eq_true (by omega)
      have hjl' : decide ((j : Int) < (ps.length : Int)) = true := decide_eq_true (by omega)
      gi_wp2
      refine hR.mono ?_
      rintro e W3 (⟨rfl, hJ3, hk3⟩ | ⟨rfl, hJx3⟩)
      · gi_wp2
        go_roundw
        case rel => exact ⟨k + 1, by omega, by have := HJ.out; simp; omega, by rw [bwU_succ]; exact hJ3, hnx.trans hk3⟩
        case measure => simp [intOf]
      · gi_wp2
        refine bodyPost_ret (results_none rfl _ _ _) rfl ?_
        exact ⟨⟨_, rfl⟩, .inr ⟨_, ⟨k, by omega, rfl⟩, by rw [bwU_succ]; exact hJx3⟩⟩
    · obtain rfl : k = ps.length := by omega
      have e0 : (ps.length : Int) - 1 - (ps.length : Int) = -1 := by omega
      rw [e0]
      gi_wp2
      go_end0
      exact ⟨⟨_, rfl⟩, .inl ⟨_, rfl, hJs⟩⟩
set_option maxRecDepth 100000 in
set_option maxHeartbeats 1000000 in
theorem back1_nil_in (F : Fence) (n : Nat) (h106 : F.fn 106) (hro : F.round = none) (l Bs : Nat) (J : List (Int × Wr) → World → Prop) (W : World) (hBs : W.cell? ⟨Bs, 0, none⟩ = some (.slice none 0 0)) (h0 : J [] W) :
    CallsIn F n Try.prog 106 #[.func (.yield l) #[] #[], .pointer (some ⟨Bs, 0, none⟩)] W fun e W' => (∃ v, e = .returned v) ∧ J [] W' := by
  refine callsIn_of_wp Try.func106 rfl h106 ?_ hro
  simp only [Try.ntmps106, List.size_toArray, List.length_cons, List.length_nil, Nat.reduceAdd, Nat.reduceSub, Array.replicate_succ, Array.replicate_zero, List.push_toArray, List.append_toArray, List.nil_append, List.cons_append]
  gi_wp2
  gi_loopw [3] (fun i wr => i = .int .i64 (-1) ∧ J [] wr) (fun _ _ => 0)
  case atStart => exact ⟨rfl, h0⟩
  case round =>
    obtain ⟨rfl, hJs⟩ := hrel
    gi_wp2
    go_end0
    exact ⟨⟨_, rfl⟩, hJs⟩
set_option maxHeartbeats 1000000 in
theorem back_in (F : Fence) (n : Nat) (h80 : F.fn 80) (hro : F.round = none) (a : Option Addr) (len cap : Nat) (w : World) :
    CallsIn F n Try.prog 80 #[.slice a len cap] w fun e w' => e = .returned (.func (.func 106) #[] #[.pointer (some ⟨w.heap.size, 0, none⟩)]) ∧ w' = w.alloc (.cells #[.slice a len cap] 130) := by
  refine callsIn_of_wp Try.func80 rfl h80 ?_ hro
  simp only [Try.ntmps80, List.size_toArray, List.length_cons, List.length_nil, Nat.reduceAdd, Nat.reduceSub, Array.replicate_succ, Array.replicate_zero, List.push_toArray, List.append_toArray, List.nil_append, List.cons_append]
  gi_wp2
  go_ret
  exact ⟨rfl, rfl⟩
def WrsAt (n₀ : Nat) (W : World) (v : Value) (ps : List Wr) : Prop := (v = .slice none 0 0 ∧ ps = []) ∨ ∃ b cap, v = .slice (some ⟨b, 0, none⟩) ps.length cap ∧ b < n₀ ∧ ∀ (j : Nat) (hj : j < ps.length), W.cell? ⟨b, j * 2, none⟩ = some (.int .i64 ps[j].at_) ∧ W.cell? ⟨b, j * 2 + 1, none⟩ = some (.string ps[j].data)
theorem WrsAt.below {n₀ : Nat} {A B : World} {v : Value} {ps : List Wr} (hb : Below n₀ A B) : WrsAt n₀ A v ps → WrsAt n₀ B v ps
  | .inl e => .inl e
  | .inr ⟨b, cap, e, hlt, hc⟩ => .inr ⟨b, cap, e, hlt, fun j hj => ⟨(hb.cell (p := ⟨b, j * 2, none⟩) hlt).trans (hc j hj).1, (hb.cell (p := ⟨b, j * 2 + 1, none⟩) hlt).trans (hc j hj).2⟩⟩
theorem WrsAt.of {w : World} {base : Nat} {v : Value} {ps : List Wr} (h : Wrs w base v ps) : WrsAt w.heap.size w v ps := by
  rcases h.cases_ with ⟨rfl, rfl⟩ | ⟨b, c, rfl, _, _, _, hlt⟩
  · exact .inl ⟨rfl, rfl⟩
  · exact .inr ⟨b, c, rfl, hlt, fun j hj => wr_at h j hj⟩
theorem back_stops (F : Fence) (n : Nat) (h106 : F.fn 106) (hro : F.round = none) (hn : 1 ≤ n) (Bs n₀ : Nat) (v : Value) (ps : List Wr) (hlen : ps.length ≤ 5000000000000) (w : World) (hBs : Bs < n₀) (hn₀ : n₀ ≤ w.heap.size)
    (hc : w.cell? ⟨Bs, 0, none⟩ = some v) (hI : WrsAt n₀ w v ps) :
    SeqStopsK F n Try.prog 106 #[.pointer (some ⟨Bs, 0, none⟩)] encW (Below n₀) (fun ys => ys = bwU ps ps.length) (fun pre => ∃ k, k < ps.length ∧ pre = bwU ps (k + 1)) ps.length w := fun l J Jx W hW _ _ hY h0 => by
  have hc' := (hW.cell (p := ⟨Bs, 0, none⟩) (show Bs < w.heap.size by omega)).trans hc
  rcases hI.below (hW.mono hn₀) with ⟨rfl, rfl⟩ | ⟨b, cap, rfl, hb, hcs⟩
  · exact (back1_nil_in F n h106 hro l Bs J W hc' h0).mono fun e W' ⟨he, hj⟩ => ⟨he, .inl ⟨_, rfl, hj⟩⟩
  · refine (back1_in F n h106 hro hn l Bs n₀ b cap ps hlen hb hBs J Jx hY W hc' hcs h0).mono ?_
    rintro e W' ⟨he, h⟩
    exact ⟨he, h⟩
end Go.Proofs.Ytckfkbmefdmedaa
namespace Go.Proofs.Ytckfkbmefdmedaa
open Go.RowKit Go.Proofs.Kq Go.Shelf
open Go.Proofs.YtckfkbmefdmedaaW.PrintWords (pw_cell_below)
set_option linter.unusedVariables false
set_option linter.unusedSimpArgs false
attribute [local go_sem] Oper.semAt_some
theorem blk_own {β : Type} (B : Nat) (t : TypeId) (f : β → Array Value) : Go.Own (fun s W => Blk W B (f s) t) := fun s X Y row hs hg hrow => by
  have h1 : X.heap[B]? = some (.cells (f s) t (0, 0)) := hs
  refine (hg.block B hs.lt (fun e => ?_)).trans hs
  obtain ⟨o, ho, hc⟩ := hrow B e.symm
  rw [h1] at ho; cases ho; cases hc
def rdF (s : DkS) (at_ : Int) : ByteArray × Int :=
  if usF s.bs.length s.dead at_ = 0 then
    (match s.ps.reverse.find? (fun p => decide (p.at_ = at_)) with
    | some p => (p.data, 0)
    | none => (s.bs.getD at_.toNat ByteArray.empty, 0))
  else (⟨#[]⟩, usF s.bs.length s.dead at_)
def RdP (R : ByteArray × Int) (w : World) (e : Ending) (w' : World) : Prop := e = .returned (.tuple #[.string R.1, .int .i64 R.2]) ∧ Below w.heap.size w w'
theorem bwU_snd (ps : List Wr) : (bwU ps ps.length).map Prod.snd = ps.reverse := by
  apply List.ext_getElem
  · simp [bwU]
  · intro i h1 h2
    simp [bwU] at h1
    simp only [bwU, List.getElem_map, List.getElem_range, bwAt, List.getElem_reverse]
    rw [List.getD_eq_getElem?_getD, List.getElem?_eq_getElem (by omega), Option.getD_some]
theorem bwU_find (ps : List Wr) (at_ : Int) (k : Nat) (hk : k < ps.length) (h1 : ∀ y ∈ bwU ps k, y.2.at_ ≠ at_) (h2 : (bwAt ps k).2.at_ = at_) : ps.reverse.find? (fun p => decide (p.at_ = at_)) = some (bwAt ps k).2 := by
  rw [← bwU_snd]
  have hsplit : bwU ps ps.length = bwU ps k ++ (bwAt ps k :: (List.range' (k + 1) (ps.length - (k + 1))).map (bwAt ps)) := by
    unfold bwU
    rw [List.range_eq_range', List.range_eq_range', show ps.length = k + (1 + (ps.length - (k + 1))) by omega, ← List.range'_append, List.map_append]
    congr 1
    rw [Nat.one_mul, Nat.zero_add, Nat.add_comm 1, List.range'_succ, List.map_cons]
    congr 3
    omega
  rw [hsplit, List.map_append, List.find?_append]
  have hn : ((bwU ps k).map Prod.snd).find? (fun p => decide (p.at_ = at_)) = none := by
    rw [List.find?_eq_none]
    intro x hx
    obtain ⟨y, hy, rfl⟩ := List.mem_map.1 hx
    simpa using h1 y hy
  rw [hn, Option.none_or, List.map_cons, List.find?_cons_of_pos (by simpa using h2)]
theorem bwU_none (ps : List Wr) (at_ : Int) (h1 : ∀ y ∈ bwU ps ps.length, y.2.at_ ≠ at_) : ps.reverse.find? (fun p => decide (p.at_ = at_)) = none := by
  rw [← bwU_snd, List.find?_eq_none]
  intro x hx
  obtain ⟨y, hy, rfl⟩ := List.mem_map.1 hx
  simpa using h1 y hy
theorem res31 (tmps : Array Value) (w : World) (b1 b2 : Nat) (s : ByteArray) (e : Int) (h4 : tmps[4]? = some (.pointer (some ⟨b1, 0, none⟩))) (h5 : tmps[5]? = some (.pointer (some ⟨b2, 0, none⟩))) (c1 : w.cell? ⟨b1, 0, none⟩ = some (.string s)) (c2 : w.cell? ⟨b2, 0, none⟩ = some (.int .i64 e)) :
    (results Try.f31 tmps).run Try.prog w = .ok (.tuple #[.string s, .int .i64 e]) w := by
  simp [results, Try.results31, go_sem, h4, h5, c1, c2]
theorem read_bad (base d : Nat) (v1 v2 : Value) (s : DkS) (at_ : Int) (w : World) (h : DT w base d v1 v2 s) (hu : usF s.bs.length s.dead at_ ≠ 0) : Calls Try.prog 31 #[.pointer (some ⟨d, 0, none⟩), .int .i64 at_] w (RdP (rdF s at_) w) := by
  have hr : rdF s at_ = (⟨#[]⟩, usF s.bs.length s.dead at_) := by unfold rdF; rw [if_neg hu]
  rw [hr]
  have hb0 : Below w.heap.size w (((w.alloc (.cells #[.int .i64 at_] 3)).alloc (.cells #[.string ⟨#[]⟩] 9)).alloc (.cells #[.int .i64 0] 24)) := below_new (below_new (below_new (Below.refl _ _) _) _) _
  have hU := usable_any base d v1 v2 s.bs s.ps s.fuse s.dead at_ _ (h.below hb0)
  unfold UsP at hU
  have g1 : (usF s.bs.length s.dead at_ == 0) = false := beq_eq_false_iff_ne.mpr hu
  generalize usF s.bs.length s.dead at_ = u at *
  clear h hr hu
  go_enter Try.func31, Try.ntmps31
  go_wp2_with fail
  with_reducible refine hU.mono ?_
  rintro e w1 ⟨rfl, rfl⟩
  clear hU
  simp only []
  go_wp2_with fail
  have hb : Below w.heap.size w (((w.alloc (.cells #[.int .i64 at_] 3)).alloc (.cells #[.string ⟨#[]⟩] 9)).alloc (.cells #[.int .i64 u] 24)) := below_new (below_new (below_new (Below.refl _ _) _) _) _
  have c1 := (Blk.c (Blk.al (Blk.new' (w := w.alloc (.cells #[.int .i64 at_] 3)) (b := w.heap.size + 1) (cs := #[.string ⟨#[]⟩]) (T := 9) (by simp)) (.cells #[.int .i64 u] 24))) 0
  have c2 := (Blk.c (Blk.new' (w := (w.alloc (.cells #[.int .i64 at_] 3)).alloc (.cells #[.string ⟨#[]⟩] 9)) (b := w.heap.size + 1 + 1) (cs := #[.int .i64 u]) (T := 24) (by simp))) 0
  exact bodyPost_ret (res31 _ _ _ _ _ _ rfl rfl c1 c2) rfl ⟨rfl, hb⟩
set_option maxRecDepth 100000 in
set_option maxHeartbeats 4000000 in
theorem read_any (base d : Nat) (v1 v2 : Value) (s : DkS) (at_ : Int) (w : World) (h : DT w base d v1 v2 s) (hlp : s.ps.length ≤ 5000000000000) (hu : usF s.bs.length s.dead at_ = 0) : Calls Try.prog 31 #[.pointer (some ⟨d, 0, none⟩), .int .i64 at_] w (RdP (rdF s at_) w) := by
  obtain ⟨W3, hW3⟩ : ∃ W3, ((w.alloc (.cells #[.int .i64 at_] 3)).alloc (.cells #[.string ⟨#[]⟩] 9)).alloc (.cells #[.int .i64 0] 24) = W3 := ⟨_, rfl⟩
  have hb3 : Below w.heap.size w W3 := by rw [← hW3]; exact below_new (below_new (below_new (Below.refl _ _) _) _) _
  have hD3 := h.below hb3
  have hU := usable_any base d v1 v2 s.bs s.ps s.fuse s.dead at_ W3 hD3
  unfold UsP at hU
  rw [hu] at hU
  obtain ⟨A2, c2, rfl, _⟩ := h.pend.slice_
  have c0 := hD3.blk.c; have l0 := hD3.blk.lt; have f0 := hD3.blk.f
  have B0 : Blk W3 w.heap.size #[.int .i64 at_] 3 := by rw [← hW3]; exact ((Blk.new' rfl).al _).al _
  have B1 : Blk W3 (w.heap.size + 1) #[.string ⟨#[]⟩] 9 := by rw [← hW3]; exact (Blk.new' (by simp)).al _
  have B2 : Blk W3 (w.heap.size + 1 + 1) #[.int .i64 0] 24 := by rw [← hW3]; exact Blk.new' (by simp)
  have hs3 : W3.heap.size = w.heap.size + 3 := by rw [← hW3]; simp
  have HD := hidI h
  have HU := hidI hu
  clear h hu
  refine (callsIn_wide (n := 6)).1 ?_
  refine callsIn_of_wp_marks Try.func31 rfl trivial ?_ rfl
  simp only [Try.ntmps31, List.size_toArray, List.length_cons, List.length_nil, Nat.reduceAdd, Nat.reduceSub, Array.replicate_succ, Array.replicate_zero, List.push_toArray, List.append_toArray, List.nil_append, List.cons_append]
  have cB0 := B0.c; have lB0 := B0.lt
  gi_wp2
  refine ⟨trivial, (callsIn_wide.2 hU).mono ?_⟩
  rintro e w' ⟨rfl, rfl⟩
  clear hU hW3
  gi_wp2
  refine ⟨trivial, (back_in Fence.wide _ trivial rfl _ _ _ _).mono ?_⟩
  rintro e w'' ⟨rfl, hw4⟩
  gi_wp2
  subst hw4
  have B0' := B0.al (.cells #[.slice A2 s.ps.length c2] 130)
  have B1' := B1.al (.cells #[.slice A2 s.ps.length c2] 130)
  have B2' := B2.al (.cells #[.slice A2 s.ps.length c2] 130)
  have B3' : Blk (w'.alloc (.cells #[.slice A2 s.ps.length c2] 130)) (w.heap.size + 3) #[.slice A2 s.ps.length c2] 130 := Blk.new' (by omega)
  have hb4 : Below w.heap.size w (w'.alloc (.cells #[.slice A2 s.ps.length c2] 130)) := below_new hb3 _
  have hD4 := hD3.below (below_new (Below.refl _ _) (.cells #[.slice A2 s.ps.length c2] 130))
  have hs4 : (w'.alloc (.cells #[.slice A2 s.ps.length c2] 130)).heap.size = w.heap.size + 4 := by simp; omega
  obtain ⟨W4, hW4⟩ : ∃ W4, w'.alloc (.cells #[.slice A2 s.ps.length c2] 130) = W4 := ⟨_, rfl⟩
  rw [hW4] at B0' B1' B2' B3' hb4 hD4 hs4 ⊢
  clear hW4 B0 B1 B2 hb3 hD3 cB0 lB0 c0 l0 f0 hs3
  have hWA : WrsAt W4.heap.size W4 (.slice A2 s.ps.length c2) s.ps := WrsAt.of hD4.pend
  refine wpIn_rangeFunc_ownH (α := Int × Wr) rfl (show 1 ≤ 6 by decide) (gf := 106) (lb := #[.pointer (some ⟨w.heap.size + 3, 0, none⟩)]) rfl trivial (enters_of Try.func106 (by kernel_rfl) rfl)
    (back_stops Fence.wide 5 trivial rfl (by decide) (w.heap.size + 3) W4.heap.size (.slice A2 s.ps.length c2) s.ps hlp W4 (by omega) (Nat.le_refl _) (B3'.c 0) hWA) belowK_t (belowK_b (Nat.le_refl _)) (Below.refl _ _) (fun _ => rfl)
    (fun pre W => (Blk W w.heap.size #[.int .i64 at_] 3 ∧ Blk W (w.heap.size + 1) #[.string ⟨#[]⟩] 9 ∧ Blk W (w.heap.size + 1 + 1) #[.int .i64 0] 24 ∧ (∀ y ∈ pre, y.2.at_ ≠ at_) ∧ W4.heap.size ≤ W.heap.size) ∧ Below w.heap.size w W)
    (fun c pre W => (c = .ret ∧ ∃ pre' x, pre = pre' ++ [x] ∧ (∀ y ∈ pre', y.2.at_ ≠ at_) ∧ x.2.at_ = at_ ∧ Blk W (w.heap.size + 1) #[.string x.2.data] 9 ∧ Blk W (w.heap.size + 1 + 1) #[.int .i64 0] 24) ∧ Below w.heap.size w W)
    (OwnFrom.and (fun s X Y row hs hg hr => ⟨blk_own _ 3 (fun (_ : Unit) => #[.int .i64 at_]) () X Y row hs.1 hg (fun r e => (hr r e).2), blk_own _ 9 (fun (_ : Unit) => #[.string ⟨#[]⟩]) () X Y row hs.2.1 hg (fun r e => (hr r e).2), blk_own _ 24 (fun (_ : Unit) => #[.int .i64 0]) () X Y row hs.2.2.1 hg (fun r e => (hr r e).2), hs.2.2.2.1, Nat.le_trans hs.2.2.2.2 hg.size⟩) (ownFrom_below (Nat.le_refl _) (by omega)))
    (fun c => OwnFrom.and (fun s X Y row hs hg hr => by
      obtain ⟨h1, pre', x, h2, h3, h4, h5, h6⟩ := hs
      exact ⟨h1, pre', x, h2, h3, h4, blk_own _ 9 (fun (_ : Unit) => #[.string x.2.data]) () X Y row h5 hg (fun r e => (hr r e).2), blk_own _ 24 (fun (_ : Unit) => #[.int .i64 0]) () X Y row h6 hg (fun r e => (hr r e).2)⟩) (ownFrom_below (Nat.le_refl _) (by omega)))
    ⟨⟨B0', B1', B2', fun y hy => by simp at hy, Nat.le_refl _⟩, hb4⟩
    (fun x a' W => ∃ Bx, w.heap.size + 3 < Bx ∧ Blk W Bx #[.int .i64 x.2.at_, .string x.2.data] 135 ∧ a' = ({ tmps := #[.pointer (some ⟨d, 0, none⟩), .int .i64 at_, undef, .pointer (some ⟨w.heap.size, 0, none⟩), .pointer (some ⟨w.heap.size + 1, 0, none⟩), .pointer (some ⟨w.heap.size + 1 + 1, 0, none⟩), .int .i64 0, undef, .pointer (some ⟨Bx, 0, none⟩), .pointer (some ⟨d, 0, none⟩), .int .i64 at_, .int .i64 0, .int .i64 0, .bool false, undef, .pointer (some ⟨d, 0, none⟩), .pointer (some ⟨d, 0, none⟩), .pointer (some ⟨d, 1, none⟩), .slice A2 s.ps.length c2, .func (.func 106) #[] #[.pointer (some ⟨w.heap.size + 3, 0, none⟩)], .int .i64 x.1, .agg #[.int .i64 x.2.at_, .string x.2.data], undef, undef, undef, undef, undef, undef, undef, undef, undef, undef, undef, undef, undef], defers := [] } : Act))
    (fun x a' _ X Y row hs hg hr => by obtain ⟨Bx, h1, h2, h3⟩ := hs; exact ⟨Bx, h1, blk_own Bx 135 (fun (_ : Unit) => #[.int .i64 x.2.at_, .string x.2.data]) () X Y row h2 hg (fun r e => (hr r e).2), h3⟩)
    ?assign ?body ?done ?stop
  case assign =>
    rintro l pre x W K ⟨⟨I0, I1, I2, I3, I4⟩, hB1⟩ hK
    simp only [encW]
    gi_wp2
    have hWs := hB1.size
    have l2 := I2.lt
    exact hK _ _ ((KeepsOthers.alloc _ _).from _) ((Below.refl _ W).alloc I4 _) ⟨⟨I0.al _, I1.al _, I2.al _, I3, by simp; omega⟩, hB1.alloc hB1.size _⟩ ⟨W.heap.size, by omega, Blk.new' rfl, rfl⟩
  case body =>
    rintro l pre x a' W hl ⟨r, hr⟩ ⟨⟨I0, I1, I2, I3, I4⟩, hB1⟩ ⟨Bx, hBx, bX, rfl⟩ hlt
    have c0 := I0.c; have l0 := I0.lt; have f0 := I0.f
    have c1 := I1.c; have l1 := I1.lt; have f1 := I1.f
    have c2 := I2.c; have l2 := I2.lt; have f2 := I2.f
    have cX := bX.c; have lX := bX.lt
    by_cases hxa : x.2.at_ = at_
    · have g1 : (x.2.at_ == at_) = true := beq_iff_eq.mpr hxa
      have HX := hidI hxa
      clear hxa
      gi_wp2
      exact ⟨((KeepsOthers.setCell _ _ _).trans (KeepsOthers.setCell _ _ _)).from _, ⟨⟨rfl, pre, x, rfl, I3, HX.out, (I1.st 0 (.string x.2.data)).so (by simp), (I2.so (by simp)).st 0 (.int .i64 0)⟩, (hB1.setCell (p := ⟨w.heap.size + 1, 0, none⟩) (by simp) _).setCell (p := ⟨w.heap.size + 1 + 1, 0, none⟩) (by simp; omega) _⟩⟩
    · have g1 : (x.2.at_ == at_) = false := beq_eq_false_iff_ne.mpr hxa
      gi_wp2
      exact ⟨KeepsFrom.refl _ _, Below.refl _ _, ⟨⟨I0, I1, I2, fun y hy => by
        rcases List.mem_append.1 hy with h | h
        · exact I3 y h
        · rcases List.mem_singleton.1 h with rfl; exact hxa, I4⟩, hB1⟩⟩
  case done =>
    rintro D zs W hD rfl ⟨⟨I0, I1, I2, I3, I4⟩, hB1⟩ hK
    have c0 := I0.c; have l0 := I0.lt; have f0 := I0.f
    have c1 := I1.c; have l1 := I1.lt; have f1 := I1.f
    have c2 := I2.c; have l2 := I2.lt; have f2 := I2.f
    have hDW := HD.out.below hB1
    have cd := hDW.blk.c; have ld := hDW.blk.lt; have fd := hDW.blk.f
    have hat : 0 ≤ at_ ∧ at_ < s.bs.length := by
      have := HU.out; unfold usF at this
      split at this
      · omega
      · split at this
        · omega
        · omega
    obtain ⟨m, rfl⟩ : ∃ m : Nat, at_ = (m : Int) := ⟨at_.toNat, by omega⟩
    have hm : m < s.bs.length := by omega
    obtain ⟨b1, c1', rfl⟩ : ∃ b1 c1', v1 = .slice (some ⟨b1, 0, none⟩) s.bs.length c1' := by
      rcases hDW.own.cases_ with ⟨e, h⟩ | ⟨b, c, e, _⟩
      · rw [h] at hm; simp at hm
      · exact ⟨b, c, e⟩
    have q := (str_at hDW.own m hm).1
    have hm' : decide ((m : Int) < (s.bs.length : Int)) = true := decide_eq_true (by omega)
    have hr : rdF s (m : Int) = (s.bs[m], 0) := by
      unfold rdF; rw [if_pos HU.out, bwU_none s.ps m I3]
      simp [hm]
    obtain ⟨z, hz⟩ : ∃ z, z = s.bs[m] := ⟨_, rfl⟩
    rw [← hz] at q hr
    have HR := hidI hr
    clear hz hr
    gi_wp2
    gi_region
    all_goals
      gi_wp2
      obtain ⟨WX, hWX⟩ : ∃ WX, WX = ((W.setCell ⟨w.heap.size + 1, 0, none⟩ (.string z)).setCell ⟨w.heap.size + 1 + 1, 0, none⟩ (.int .i64 0)).drew := ⟨_, rfl⟩
      rw [← hWX]
      have hKX : WX.heap[D]? = some (.deferred (some [])) := by
        rw [hWX]
        exact ((KeepsOthers.setCell W ⟨w.heap.size + 1, 0, none⟩ (.string z)).trans (KeepsOthers.setCell _ ⟨w.heap.size + 1 + 1, 0, none⟩ (.int .i64 0))).same D _ hK rfl
      have K1 : Blk WX (w.heap.size + 1) #[.string z] 9 := by rw [hWX]; exact ((I1.st 0 (.string z)).so (by simp)).dr
      have K2 : Blk WX (w.heap.size + 1 + 1) #[.int .i64 0] 24 := by rw [hWX]; exact ((I2.so (by simp)).st 0 (.int .i64 0)).dr
      have hbX : Below w.heap.size w WX := by rw [hWX]; exact ((hB1.setCell (p := ⟨w.heap.size + 1, 0, none⟩) (by simp) _).setCell (p := ⟨w.heap.size + 1 + 1, 0, none⟩) (by simp; omega) _).drew
      clear hWX
      have k1 := blk_own _ 9 (fun (_ : Unit) => #[.string z]) () WX _ (some D) K1 (grownBy_putObj' WX D (.deferred none)) (fun r e => by cases e; exact ⟨_, hKX, rfl⟩)
      have k2 := blk_own _ 24 (fun (_ : Unit) => #[.int .i64 0]) () WX _ (some D) K2 (grownBy_putObj' WX D (.deferred none)) (fun r e => by cases e; exact ⟨_, hKX, rfl⟩)
      refine ⟨by simp, .inl ⟨_, _, rfl, run_takeDeferred hKX, ?_⟩⟩
      exact ⟨_, res31 _ _ _ _ _ _ rfl rfl (k1.c 0) (k2.c 0), by rw [HR.out]; exact ⟨rfl, hbX.trans (belowK_b (w := w) (Nat.le_refl _) WX D _ _ (by omega) hKX rfl rfl)⟩⟩
  case stop =>
    rintro D c pre W hD ⟨k, hk, rfl⟩ ⟨⟨rfl, pre', x, hpre, hne, hx, J1, J2⟩, hB1⟩ hK
    rw [bwU_succ] at hpre
    obtain ⟨e1, e2⟩ := List.append_inj' hpre rfl
    injection e2 with e2
    have hr : rdF s at_ = (x.2.data, 0) := by
      unfold rdF
      rw [if_pos HU.out, bwU_find s.ps at_ k hk (by rw [e1]; exact hne) (by rw [e2]; exact hx), e2]
    have HR := hidI hr
    clear hr
    gi_wp2
    have k1 := blk_own _ 9 (fun (_ : Unit) => #[.string x.2.data]) () W _ (some D) J1 (grownBy_putObj' W D (.deferred none)) (fun r e => by cases e; exact ⟨_, hK, rfl⟩)
    have k2 := blk_own _ 24 (fun (_ : Unit) => #[.int .i64 0]) () W _ (some D) J2 (grownBy_putObj' W D (.deferred none)) (fun r e => by cases e; exact ⟨_, hK, rfl⟩)
    refine ⟨by simp, .inl ⟨_, _, rfl, run_takeDeferred hK, ?_⟩⟩
    exact ⟨_, res31 _ _ _ _ _ _ rfl rfl (k1.c 0) (k2.c 0), by rw [HR.out]; exact ⟨rfl, hB1.trans (belowK_b (w := w) (Nat.le_refl _) W D _ _ (by omega) hK rfl rfl)⟩⟩
end Go.Proofs.Ytckfkbmefdmedaa
namespace Go.Proofs.Ytckfkbmefdmedaa
open Go.RowKit Go.Proofs.Kq
set_option linter.unusedVariables false
set_option linter.unusedSimpArgs false
def lastW (b : ByteArray) (at_ : Int) (l : List Wr) : ByteArray := match l.reverse.find? (fun p => decide (p.at_ = at_)) with
  | some p => p.data
  | none => b
theorem lastW_snoc (b : ByteArray) (at_ : Int) (l : List Wr) (p : Wr) : lastW b at_ (l ++ [p]) = if p.at_ = at_ then p.data else lastW b at_ l := by
  unfold lastW
  rw [List.reverse_append, List.reverse_singleton, List.singleton_append, List.find?_cons]
  by_cases h : p.at_ = at_
  · rw [decide_eq_true h, if_pos h]
  · rw [decide_eq_false h, if_neg h]
def RrP (R : ByteArray × Int) (w : World) (e : Ending) (w' : World) : Prop := e = .returned (.tuple #[.string R.1, .int .i64 R.2]) ∧ w' = w
set_option maxHeartbeats 2000000 in
set_option maxRecDepth 100000 in
theorem rread_any (base d : Nat) (v1 v2 : Value) (s : DkS) (at_ : Int) (w : World) (h : ET w base d v1 v2 s) (hl : s.ps.length ≤ 5000000000000) :
    Calls Try.prog 39 #[.pointer (some ⟨d, 0, none⟩), .int .i64 at_] w (RrP (rdF s at_) w) := by
  obtain ⟨bs, ps, fuse, dead⟩ := s
  have hl : ps.length ≤ 5000000000000 := hl
  obtain ⟨R, hR⟩ : ∃ R, R = rdF ⟨bs, ps, fuse, dead⟩ at_ := ⟨_, rfl⟩
  rw [← hR]
  have HR := hidI hR
  clear hR
  have c0 := h.blk.c; have l0 := h.blk.lt; have f0 := h.blk.f
  obtain ⟨A1, c1, rfl, _⟩ := h.own.slice_
  cases dead
  · by_cases hu : at_ < 0 ∨ (bs.length : Int) ≤ at_
    · have hfin : Hid (RrP R w (.returned (.tuple #[.string ⟨#[]⟩, .int .i64 8])) w) := hidI (by
        have e : R = (⟨#[]⟩, 8) := by rw [HR.out]; unfold rdF usF; simp [hu]
        rw [e]; exact ⟨rfl, rfl⟩)
      clear h
      by_cases h1 : at_ < 0
      · have g1 : decide (at_ < 0) = true := decide_eq_true h1
        go_enter Try.func39, Try.ntmps39
        go_wp2_with fail
        go_ret2
        exact hfin.out
      · have g1 : decide (at_ < 0) = false := decide_eq_false h1
        have g2 : decide ((bs.length : Int) ≤ at_) = true := decide_eq_true (by omega)
        go_enter Try.func39, Try.ntmps39
        go_wp2_with fail
        go_ret2
        exact hfin.out
    · have hat : 0 ≤ at_ ∧ at_ < bs.length := by omega
      obtain ⟨m, rfl⟩ : ∃ m : Nat, at_ = (m : Int) := ⟨at_.toNat, by omega⟩
      have hm : m < bs.length := by omega
      have g1 : decide ((m : Int) < 0) = false := decide_eq_false (by omega)
      have g2 : decide ((bs.length : Int) ≤ (m : Int)) = false := decide_eq_false (by omega)
      have g3 : decide ((m : Int) < (bs.length : Int)) = true := decide_eq_true (by omega)
      obtain ⟨b1, rfl⟩ : ∃ b1, A1 = some ⟨b1, 0, none⟩ := by
        rcases h.own.cases_ with ⟨e, h⟩ | ⟨b, c, e, _⟩
        · have h : bs = [] := h
          rw [h] at hm; simp at hm
        · injection e with e1; exact ⟨b, e1⟩
      have q := (str_at h.own m hm).1
      obtain ⟨z, hz⟩ : ∃ z, z = bs[m] := ⟨_, rfl⟩
      rw [← hz] at q
      have hRe : R = (lastW z m ps, 0) := by
        have hus : usF bs.length false (m : Int) = 0 := by unfold usF; rw [if_neg (by decide), if_neg (by omega)]
        rw [HR.out]
        unfold rdF lastW
        show (if usF bs.length false (m : Int) = 0 then _ else _) = _
        rw [if_pos hus]
        split <;> rename_i hf
        · simp only [hf]
        · simp only [hf]; simp [hz, hm]
      have HRE := hidI hRe
      have HP := hidI h.pend
      obtain ⟨A2, c2, rfl, _⟩ := h.pend.slice_
      clear hz hRe h hu hat
      go_enter Try.func39, Try.ntmps39
      go_wp2_with fail
      go_loop [6, 7] (fun b i => ∃ k : Nat, k ≤ ps.length ∧ i = .int .i64 k ∧ ∃ x : ByteArray, b = .string x ∧ Hid (x = lastW z m (ps.take k))) (fun _ i => ps.length - (intOf i).toNat)
      case atStart => exact ⟨0, Nat.zero_le _, rfl, z, rfl, hidI rfl⟩
      case round =>
        obtain ⟨k, hk, rfl, x, rfl, hx⟩ := hrel
        by_cases hlt : k < ps.length
        · have hlt' : decide ((k : Int) < (ps.length : Int)) = true := decide_eq_true (by omega)
          obtain ⟨b2, rfl⟩ : ∃ b2, A2 = some ⟨b2, 0, none⟩ := by
            rcases HP.out.cases_ with ⟨e, h⟩ | ⟨b, c, e, _⟩
            · rw [h] at hlt; simp at hlt
            · injection e with e1; exact ⟨b, e1⟩
          obtain ⟨q0, q1⟩ := wre_at HP.out k hlt
          obtain ⟨pa, hpa⟩ : ∃ pa, pa = ps[k].at_ := ⟨_, rfl⟩
          obtain ⟨pd, hpd⟩ : ∃ pd, pd = ps[k].data := ⟨_, rfl⟩
          rw [← hpa] at q0
          rw [← hpd] at q1
          have hst : lastW z m (ps.take (k + 1)) = if pa = (m : Int) then pd else lastW z m (ps.take k) := by
            rw [List.take_succ_eq_append_getElem hlt, lastW_snoc, ← hpa, ← hpd]
          have HST := hidI hst
          clear hpa hpd hst
          by_cases hp : pa = (m : Int)
          · have g4 : (pa == (m : Int)) = true := beq_iff_eq.mpr hp
            have hnx : Hid (pd = lastW z m (ps.take (k + 1))) := hidI (by rw [HST.out, if_pos hp])
            clear hp
            go_wp2_with fail
            exact ⟨⟨k + 1, by omega, by simp, pd, rfl, hnx⟩, by simp [intOf]; omega⟩
          · have g4 : (pa == (m : Int)) = false := beq_eq_false_iff_ne.mpr hp
            have hnx : Hid (x = lastW z m (ps.take (k + 1))) := hidI (by rw [HST.out, if_neg hp]; exact hx.out)
            clear hp
            go_wp2_with fail
            exact ⟨⟨k + 1, by omega, by simp, x, rfl, hnx⟩, by simp [intOf]; omega⟩
        · have hlt' : decide ((k : Int) < (ps.length : Int)) = false := decide_eq_false (by omega)
          have hfin : Hid (RrP R w (.returned (.tuple #[.string x, .int .i64 0])) w) := hidI (by
            have e := hx.out
            rw [List.take_of_length_le (by omega)] at e
            rw [HRE.out, ← e]; exact ⟨rfl, rfl⟩)
          go_wp2_with fail
          go_ret2
          exact hfin.out
  · have hfin : Hid (RrP R w (.returned (.tuple #[.string ⟨#[]⟩, .int .i64 7])) w) := hidI (by
      have e : R = (⟨#[]⟩, 7) := by rw [HR.out]; rfl
      rw [e]; exact ⟨rfl, rfl⟩)
    clear h
    go_enter Try.func39, Try.ntmps39
    go_wp2_with fail
    go_ret2
    exact hfin.out
end Go.Proofs.Ytckfkbmefdmedaa
namespace Go.Proofs.Ytckfkbmefdmedaa
open Go.RowKit Go.Proofs.YtckfkbmefdmedaaW.PrintWords Go.Proofs.YtckfkbmefdmedaaW.PrintLast
set_option linter.unusedVariables false
set_option linter.unusedSimpArgs false
theorem C_ints {k : IntKind} {w : World} {A : Option Addr} {xs : List Int} (h : Kd.C (Kd.int k) w A xs.length xs) (hn : 0 < xs.length) :
    ∃ b off, A = some ⟨b, off, none⟩ ∧ ∀ (i : Nat) (hi : i < xs.length), w.cell? ⟨b, off + i, none⟩ = some (.int k xs[i]) := by
  obtain ⟨ad, rfl, hc⟩ := (Kd.reads_of_C (d := (0 : Int)) h).2.2 hn
  have hsp : ad.spot = none := by
    have h1 := Rk.spot_none (hc 0 hn)
    simpa [Addr.add] using h1
  refine ⟨ad.block, ad.off, by rw [← Kp.addr_eta hsp], fun i hi => ?_⟩
  have := hc i hi
  rw [Kp.addr_eta hsp, Kp.add_plain', List.getD_eq_getElem?_getD, List.getElem?_eq_getElem hi] at this
  simpa using this
end Go.Proofs.Ytckfkbmefdmedaa
namespace Go.Proofs.Ytckfkbmefdmedaa
open Go.RowKit Go.Proofs.Kq
open Go.Proofs.YtckfkbmefdmedaaW.PrintWords (pw_cell_below Kd Kd.C Kd.C_below encs)
set_option linter.unusedVariables false
set_option linter.unusedSimpArgs false
def keepAt (ks : List Int) (i : Nat) : Nat := if i < ks.length then min (ks.getD i 0).toNat 64 else 0
def tearD (x y : ByteArray) (cut : Nat) : ByteArray := x.extract 0 cut ++ y.extract cut 64
def rsAll (ks : List Int) (i : Nat) (bs : List ByteArray) : List Wr → List ByteArray
  | [] => bs
  | p :: l => rsAll ks (i + 1) (bs.set p.at_.toNat (tearD p.data (bs.getD p.at_.toNat ByteArray.empty) (keepAt ks i))) l
theorem rsAll_snoc (ks : List Int) : ∀ (l : List Wr) (i : Nat) (bs : List ByteArray) (p : Wr), rsAll ks i bs (l ++ [p]) = (rsAll ks i bs l).set p.at_.toNat (tearD p.data ((rsAll ks i bs l).getD p.at_.toNat ByteArray.empty) (keepAt ks (i + l.length)))
  | [], i, bs, p => rfl
  | q :: l, i, bs, p => by
    simp only [List.cons_append, rsAll]
    rw [rsAll_snoc ks l (i + 1) _ p, List.length_cons, show i + 1 + l.length = i + (l.length + 1) by omega]
def All64 (bs : List ByteArray) : Prop := ∀ b ∈ bs, b.size = 64
def Wr64 (ps : List Wr) : Prop := ∀ p ∈ ps, p.data.size = 64
theorem tearD_size (x y : ByteArray) (cut : Nat) (hx : x.size = 64) (hy : y.size = 64) (hc : cut ≤ 64) : (tearD x y cut).size = 64 := by
  unfold tearD; rw [ByteArray.size_append, ByteArray.size_extract, ByteArray.size_extract]; omega
theorem keepAt_le (ks : List Int) (i : Nat) : keepAt ks i ≤ 64 := by unfold keepAt; split <;> omega
theorem all64_set {bs : List ByteArray} (h : All64 bs) (k : Nat) {z : ByteArray} (hz : z.size = 64) : All64 (bs.set k z) := by
  intro b hb
  rcases List.mem_or_eq_of_mem_set hb with h1 | h1
  · exact h b h1
  · rw [h1]; exact hz
theorem rsAll_ok (ks : List Int) : ∀ (l : List Wr) (i : Nat) (bs : List ByteArray), All64 bs → Wr64 l → inB bs.length l → (rsAll ks i bs l).length = bs.length ∧ All64 (rsAll ks i bs l)
  | [], i, bs, h, _, _ => ⟨rfl, h⟩
  | p :: l, i, bs, h, hw, hin => by
    have hp := hin p (by simp)
    have hk : p.at_.toNat < bs.length := by omega
    have hy : (bs.getD p.at_.toNat ByteArray.empty).size = 64 := by
      rw [List.getD_eq_getElem?_getD, List.getElem?_eq_getElem hk]; exact h _ (List.getElem_mem hk)
    have h2 := rsAll_ok ks l (i + 1) (bs.set p.at_.toNat (tearD p.data (bs.getD p.at_.toNat ByteArray.empty) (keepAt ks i))) (all64_set h _ (tearD_size _ _ _ (hw p (by simp)) hy (keepAt_le _ _))) (fun q hq => hw q (by simp [hq])) (fun q hq => by rw [List.length_set]; exact hin q (by simp [hq]))
    exact ⟨by rw [rsAll, h2.1, List.length_set], h2.2⟩
def rsS (s : DkS) (ks : List Int) : DkS := ⟨rsAll ks 0 s.bs s.ps, [], -1, false⟩
set_option maxHeartbeats 4000000 in
set_option maxRecDepth 100000 in
theorem restart_any (base d : Nat) (v1 v2 : Value) (s : DkS) (AK : Option Addr) (ck : Nat) (ks : List Int) (w : World) (h : DT w base d v1 v2 s) (hb : base ≤ w.heap.size)
    (hK : Kd.C (Kd.int .u8) w AK ks.length ks) (hkv : ∀ k ∈ ks, 0 ≤ k ∧ k ≤ 255) (hK0 : 0 < ks.length → ∀ b off, AK = some ⟨b, off, none⟩ → ¬ DS d v1 v2 b)
    (hl : s.ps.length ≤ 5000000000000) (hin : inB s.bs.length s.ps) (hb64 : All64 s.bs) (hw64 : Wr64 s.ps) :
    Calls Try.prog 29 #[.pointer (some ⟨d, 0, none⟩), .slice AK ks.length ck] w (MuP base d v1 v2 (.returned (.tuple #[])) (rsS s ks) w) := by
  obtain ⟨bs, ps, fuse, dead⟩ := s
  have c0 := h.blk.c; have l0 := h.blk.lt; have f0 := h.blk.f
  have HD := hidI h
  obtain ⟨A2, c2, rfl, _⟩ := h.pend.slice_
  clear h
  go_enter Try.func29, Try.ntmps29
  go_wp2_with fail
  go_loopw [14] (fun i wr => ∃ k : Nat, k ≤ ps.length ∧ i = .int .i64 k ∧ Hid (Dt wr base d v1 (.slice A2 ps.length c2) (rsAll ks 0 bs (ps.take k)) ps fuse dead ∧ Fr (DS d v1 (.slice A2 ps.length c2)) w wr)) (fun i _ => ps.length - (intOf i).toNat)
  case atStart => exact ⟨0, Nat.zero_le _, rfl, hidI ⟨HD.out, Fr.refl _ _⟩⟩
  case round =>
    obtain ⟨k, hk, rfl, hI⟩ := hrel
    by_cases hlt : k < ps.length
    · have hin1 := hin ps[k] (List.getElem_mem hlt)
      have h0 : 0 < bs.length := by omega
      have hlt' : decide ((k : Int) < (ps.length : Int)) = true := decide_eq_true (by omega)
      obtain ⟨b2, rfl⟩ : ∃ b2, A2 = some ⟨b2, 0, none⟩ := by
        rcases hI.out.1.pend.cases_ with ⟨e, h⟩ | ⟨b, c, e, _⟩
        · rw [h] at hlt; simp at hlt
        · injection e with e1; exact ⟨b, e1⟩
      obtain ⟨q0, q1⟩ := wr_at hI.out.1.pend k hlt
      obtain ⟨m, hm⟩ : ∃ m : Nat, ps[k].at_ = (m : Int) := ⟨ps[k].at_.toNat, by omega⟩
      have hmb : m < bs.length := by omega
      obtain ⟨z, hz⟩ : ∃ z, z = ps[k].data := ⟨_, rfl⟩
      rw [hm] at q0
      rw [← hz] at q1
      have hz64 : z.size = 64 := by rw [hz]; exact hw64 _ (List.getElem_mem hlt)
      have hrk := rsAll_ok ks (ps.take k) 0 bs hb64 (fun q hq => hw64 q (List.mem_of_mem_take hq)) (fun q hq => hin q (List.mem_of_mem_take hq))
      obtain ⟨cut, hcut⟩ : ∃ cut, cut = keepAt ks k := ⟨_, rfl⟩
      have hcl : cut ≤ 64 := by rw [hcut]; exact keepAt_le _ _
      obtain ⟨b1, c3, rfl⟩ : ∃ b1 c3, v1 = .slice (some ⟨b1, 0, none⟩) bs.length c3 := by
        rcases HD.out.own.cases_ with ⟨e, h⟩ | ⟨b, c, e, _⟩
        · have h : bs = [] := h
          rw [h] at h0; simp at h0
        · exact ⟨b, c, e⟩
      have hbw := below_new (Below.refl wr.heap.size wr) (.cells #[.int .i64 (m : Int), .string z] 135)
      have hD' := hI.out.1.below hbw
      have hF' : Fr (DS d (.slice (some ⟨b1, 0, none⟩) bs.length c3) (.slice (some ⟨b2, 0, none⟩) ps.length c2)) w _ := hI.out.2.below hbw
      have hsl := hrk.1
      rw [← hsl] at hD'
      have hat := str_at hD'.own m (by omega)
      obtain ⟨y, hy⟩ : ∃ y, y = (rsAll ks 0 bs (ps.take k))[m]'(by omega) := ⟨_, rfl⟩
      rw [← hy] at hat
      have hy64 : y.size = 64 := by rw [hy]; exact hrk.2 _ (List.getElem_mem _)
      have qs := hat.1
      have qf := hat.2
      have hput := hD'.put m (tearD z y cut)
      have hst : rsAll ks 0 bs (ps.take (k + 1)) = (rsAll ks 0 bs (ps.take k)).set m (tearD z y cut) := by
        rw [List.take_succ_eq_append_getElem hlt, rsAll_snoc, hm, ← hz, Int.toNat_natCast, List.length_take, Nat.zero_add, Nat.min_eq_left hk, ← hcut, hy, List.getD_eq_getElem?_getD, List.getElem?_eq_getElem (by omega), Option.getD_some]
      rw [← hst, hsl] at hput
      rw [hsl] at hD'
      have cd := hD'.blk.c; have ld := hD'.blk.lt; have fd := hD'.blk.f
      have hBn : Blk (wr.alloc (.cells #[.int .i64 (m : Int), .string z] 135)) wr.heap.size #[.int .i64 (m : Int), .string z] 135 := Blk.new' rfl
      have cn := hBn.c; have ln := hBn.lt; have fn := hBn.f
      have HN := hidI (And.intro hput (hF'.setCell (p := ⟨b1, m, none⟩) (fun _ => .inr (.inl rfl)) (.string (tearD z y cut))))
      unfold tearD at HN
      have hmb' : decide ((m : Int) < (bs.length : Int)) = true := decide_eq_true (by omega)
      have HCUT := hidI hcut
      clear hD' hF' hput hat hBn hst hbw hy hsl hrk hz hm hin1 hcut
      by_cases hkk : k < ks.length
      · have hkk' : decide ((k : Int) < (ks.length : Int)) = true := decide_eq_true (by omega)
        obtain ⟨bk, ok, hAK, hcell⟩ := C_ints hK (by omega)
        have qk0 := hcell k hkk
        obtain ⟨kv, hkv2⟩ : ∃ kv, kv = ks[k] := ⟨_, rfl⟩
        rw [← hkv2] at qk0
        have qk := hI.out.2.cell (hK0 (by omega) bk ok hAK) qk0
        have hmin : min kv 64 = (cut : Int) := by
          have := hkv ks[k] (List.getElem_mem hkk)
          have e := HCUT.out
          unfold keepAt at e
          rw [if_pos hkk, List.getD_eq_getElem?_getD, List.getElem?_eq_getElem hkk, Option.getD_some] at e
          rw [hkv2]; omega
        have hkv3 : 0 ≤ kv ∧ kv ≤ 255 := by rw [hkv2]; exact hkv _ (List.getElem_mem hkk)
        subst hAK
        have qk' := pw_cell_below (below_new (Below.refl wr.heap.size wr) (.cells #[.int .i64 (m : Int), .string z] 135)) qk
        clear hkv2 hcell qk0
        as_aux_lemma =>
          go_wp2_with fail
          generalize wr.alloc (.cells #[.int .i64 (m : Int), .string z] 135) = wx at *
          go_region
          go_wp2_with fail
          go_roundw
          · exact ⟨k + 1, by omega, by simp, hidI ⟨⟨HN.out.1.blk.dr, HN.out.1.own.drew, HN.out.1.pend.drew⟩, HN.out.2.drew⟩⟩
          · simp [intOf]; omega
      · have hkk' : decide ((k : Int) < (ks.length : Int)) = false := decide_eq_false (by omega)
        obtain rfl : cut = 0 := by have := HCUT.out; unfold keepAt at this; rw [if_neg hkk] at this; exact this
        rw [show z.extract 0 0 ++ y.extract 0 64 = y.extract 0 64 by apply ByteArray.ext; simp] at HN
        as_aux_lemma =>
          go_wp2_with fail
          generalize wr.alloc (.cells #[.int .i64 (m : Int), .string z] 135) = wx at *
          go_region
          go_wp2_with fail
          go_roundw
          · exact ⟨k + 1, by omega, by simp, hidI ⟨⟨HN.out.1.blk.dr, HN.out.1.own.drew, HN.out.1.pend.drew⟩, HN.out.2.drew⟩⟩
          · simp [intOf]; omega
    · have hlt' : decide ((k : Int) < (ps.length : Int)) = false := decide_eq_false (by omega)
      have hD := hI.out.1
      rw [List.take_of_length_le (by omega)] at hD
      have hfin : Hid (MuP base d v1 (.slice A2 ps.length c2) (.returned (.tuple #[])) (rsS ⟨bs, ps, fuse, dead⟩ ks) w (.returned (.tuple #[])) (((wr.setCell ⟨d, 1, none⟩ (.slice none 0 0)).setCell ⟨d, 3, none⟩ (.bool false)).setCell ⟨d, 2, none⟩ (.int .i64 (-1)))) := hidI (by
        have h1 : Dt (wr.setCell ⟨d, 1, none⟩ (.slice none 0 0)) base d v1 (.slice none 0 0) (rsAll ks 0 bs ps) [] fuse dead := ⟨hD.blk.st 1 _, hD.own.far (p := ⟨d, 1, none⟩) (hD.own.ne hD.blk (by decide)) _, Go.Proofs.Kq.Own.nil _ _ _ _ _⟩
        refine ⟨rfl, .slice none 0 0, (h1.st.2 false).st.1 (-1), ((hI.out.2.setCell (fun _ => .inl rfl) _).setCell (fun _ => .inl rfl) _).setCell (fun _ => .inl rfl) _, ?_⟩
        rintro q (h | h | h)
        · exact .inl (.inl h)
        · exact .inl (.inr (.inl h))
        · cases h)
      have cd := hD.blk.c; have ld := hD.blk.lt; have fd := hD.blk.f
      clear hD
      go_wp2_with fail
      refine bodyPost_end (results_none rfl _ _ _) rfl ?_
      exact hfin.out
end Go.Proofs.Ytckfkbmefdmedaa
namespace Go.Proofs.Ytckfkbmefdmedaa
open Go.RowKit Go.Proofs.Kq
set_option linter.unusedVariables false
set_option linter.unusedSimpArgs false
structure Sim (s t : DkS) : Prop where
  bs : s.bs = t.bs
  ps : s.ps = t.ps
  dead : s.dead = t.dead
  fuse : s.fuse = t.fuse ∨ (s.fuse < 0 ∧ t.fuse < 0)
theorem Sim.refl (s : DkS) : Sim s s := ⟨rfl, rfl, rfl, .inl rfl⟩
theorem fuse_zero {a b : Int} (h : a = b ∨ (a < 0 ∧ b < 0)) : decide (a = 0) = decide (b = 0) := by
  rcases h with rfl | ⟨h1, h2⟩
  · rfl
  · rw [decide_eq_false (by omega), decide_eq_false (by omega)]
theorem thN_sim {a b : Int} (h : a = b ∨ (a < 0 ∧ b < 0)) : thN a = thN b ∨ (thN a < 0 ∧ thN b < 0) := by
  rcases h with rfl | ⟨h1, h2⟩
  · exact .inl rfl
  · right; unfold thN; rw [if_neg (by omega), if_neg (by omega)]; exact ⟨h1, h2⟩
theorem wrS_sim {s t : DkS} (h : Sim s t) (at_ : Int) (x : ByteArray) : (wrS s at_ x).1 = (wrS t at_ x).1 ∧ Sim (wrS s at_ x).2 (wrS t at_ x).2 := by
  obtain ⟨b1, p1, f1, d1⟩ := s
  obtain ⟨b2, p2, f2, d2⟩ := t
  obtain ⟨h1, h2, h3, h4⟩ := h
  simp only at h1 h2 h3 h4
  subst h1; subst h2; subst h3
  have hz := fuse_zero h4
  unfold wrS thF
  simp only []
  split
  · split
    · rw [hz]; exact ⟨rfl, ⟨rfl, rfl, rfl, thN_sim h4⟩⟩
    · exact ⟨rfl, ⟨rfl, rfl, rfl, h4⟩⟩
  · exact ⟨rfl, ⟨rfl, rfl, rfl, h4⟩⟩
theorem syS_sim {s t : DkS} (h : Sim s t) : (syS s).1 = (syS t).1 ∧ Sim (syS s).2 (syS t).2 := by
  obtain ⟨b1, p1, f1, d1⟩ := s
  obtain ⟨b2, p2, f2, d2⟩ := t
  obtain ⟨h1, h2, h3, h4⟩ := h
  simp only at h1 h2 h3 h4
  subst h1; subst h2; subst h3
  have hz := fuse_zero h4
  unfold syS thF
  simp only []
  rw [hz]
  split
  · exact ⟨rfl, ⟨rfl, rfl, rfl, h4⟩⟩
  · split
    · exact ⟨rfl, ⟨rfl, rfl, rfl, thN_sim h4⟩⟩
    · exact ⟨rfl, ⟨rfl, rfl, rfl, thN_sim h4⟩⟩
theorem rsS_sim {s t : DkS} (h : Sim s t) (ks : List Int) : rsS s ks = rsS t ks := by
  unfold rsS; rw [h.bs, h.ps]
theorem rdF_sim {s t : DkS} (h : Sim s t) (at_ : Int) : rdF s at_ = rdF t at_ := by
  unfold rdF; rw [h.bs, h.ps, h.dead]
theorem fail_sim {s t : DkS} (h : Sim s t) (n : Int) : Sim ⟨s.bs, s.ps, n, s.dead⟩ ⟨t.bs, t.ps, max n (-1), t.dead⟩ :=
  ⟨h.bs, h.ps, h.dead, by show n = max n (-1) ∨ (n < 0 ∧ max n (-1) < 0); omega⟩
end Go.Proofs.Ytckfkbmefdmedaa
namespace Go.Proofs.Ytckfkbmefdmedaa
open Go.RowKit Go.Proofs.Kq
open Go.Proofs.YtckfkbmefdmedaaW.PrintWords (pw_cell_below Kd Kd.C Kd.C_below encs)
set_option linter.unusedVariables false
set_option linter.unusedSimpArgs false
def rp (z : ByteArray) (m n : Nat) : List Value := List.replicate m (.string z) ++ List.replicate (n - m) (.string ⟨#[]⟩)
theorem rp_len (z : ByteArray) (m n : Nat) (h : m ≤ n) : (rp z m n).length = n := by simp [rp]; omega
theorem rp_zero (z : ByteArray) (n : Nat) : rp z 0 n = List.replicate n (.string ⟨#[]⟩) := by simp [rp]
theorem rp_full (z : ByteArray) (n : Nat) : rp z n n = List.replicate n (.string z) := by simp [rp]
theorem rp_splice (z : ByteArray) (m j n : Nat) (h : m + j ≤ n) : splice (rp z m n) m (List.replicate j (.string z)) = rp z (m + j) n := by
  unfold splice rp
  rw [List.take_left' (by simp), List.length_replicate, ← List.drop_drop, List.drop_left' (by simp), List.drop_replicate, ← List.append_assoc, List.replicate_append_replicate, Nat.sub_sub]
theorem made_strs (n : Nat) : madeCells (Value.string ⟨#[]⟩).cells (n * 1) = (List.replicate n (Value.string ⟨#[]⟩)).toArray := by
  apply Array.ext
  · rw [size_madeCells]; simp
  · intro i h1 h2
    rw [size_madeCells] at h1
    simp [madeCells, Value.cells, Nat.mod_one]
def RpP (z : ByteArray) (n : Nat) (w : World) (e : Ending) (w' : World) : Prop := ∃ v, e = .returned v ∧ Strs w' w.heap.size v (List.replicate n z) ∧ Below w.heap.size w w'
set_option maxHeartbeats 2000000 in
set_option maxRecDepth 100000 in
theorem repeat_any (z : ByteArray) (g n : Nat) (w : World) (h : Blk w g #[.string z] 9) (hn : n ≤ 1000000) :
    Calls Try.prog 77 #[.slice (some ⟨g, 0, none⟩) 1 1, .int .i64 n] w (RpP z n w) := by
  have hM : Calls Try.prog 70 #[.int .u64 1, .int .u64 n] w fun e w' => e = .returned (.tuple #[.int .u64 0, .int .u64 n]) ∧ w' = w := by
    have := Try.bits_Mul 1 n (by omega) (by omega) w
    rw [Nat.one_mul, Nat.div_eq_of_lt (by omega), Nat.mod_eq_of_lt (by omega)] at this
    exact this
  have c0 := h.c; have l0 := h.lt; have f0 := h.f
  have g1 : decide ((n : Int) < 0) = false := decide_eq_false (by omega)
  have g2 : decide ((9223372036854775807 : Int) < (n : Int)) = false := decide_eq_false (by omega)
  have HB := hidI h
  clear h
  go_enter Try.func77, Try.ntmps77
  go_wp2_with fail
  with_reducible refine hM.mono ?_
  rintro e w1 ⟨rfl, hw1⟩
  subst hw1
  clear hM
  simp only []
  obtain ⟨i0, hi0, hz0, hz1, hz2⟩ := info_parts info9s
  have hmk := run_make (P := Try.prog) w1 22 9 i0 (.string ⟨#[]⟩) Try.underlying22 hi0 hz0 .i64 .i64 n n (by omega) (by omega) (by rw [hz2]; omega) (by omega)
  rw [Int.toNat_natCast, hz1, made_strs, ← rp_zero z n] at hmk
  obtain ⟨m0, hm0⟩ : ∃ m0, m0 = min 1 n := ⟨_, rfl⟩
  have hm1 : m0 ≤ n := by omega
  have hm2 : 0 < n → 0 < m0 := by omega
  have hm3 : m0 = Nat.min 1 n := hm0
  have hm4 : m0 ≤ 1 := by omega
  clear hm0
  obtain ⟨cs, hcs⟩ : ∃ cs, cs = List.replicate m0 (Value.string z) := ⟨_, rfl⟩
  have hcl : cs.length = m0 := by rw [hcs]; simp
  have HCS := hidI hcs
  have HM3 := hidI hm3
  clear hcs hm3
  have hg0 : (w1.alloc (.cells (rp z 0 n).toArray 9)).heap[w1.heap.size]? = some (.cells (rp z 0 n).toArray 9 (0, 0)) := by show (w1.heap.push _)[w1.heap.size]? = _; simp
  have HG0 := hidI hg0
  clear hg0
  have hsz : (Try.prog.info? 9).map (·.size) = some 1 := by kernel_rfl
  have aP : 0 < cs.length → (some ⟨w1.heap.size, 0, none⟩ : Option Addr) = some ⟨w1.heap.size, 0, none⟩ ∧ ∃ ad, (some ⟨g, 0, none⟩ : Option Addr) = some ad ∧ ∀ j v, cs[j]? = some v → (w1.alloc (.cells (rp z 0 n).toArray 9)).cell? (ad.add j) = some v := by
    refine fun h => ⟨rfl, ⟨g, 0, none⟩, rfl, fun j v hj => ?_⟩
    rw [HCS.out, List.getElem?_replicate] at hj
    split at hj
    · cases hj
      obtain rfl : j = 0 := by omega
      have := Blk.c (HB.out.al (.cells (rp z 0 n).toArray 9)) 0
      simpa [Addr.add] using this
    · cases hj
  have aF : 0 + cs.length ≤ (rp z 0 n).length := by rw [rp_len z 0 n (Nat.zero_le _)]; omega
  have a1 : ∀ v ∈ cs, v.oneCell' = true := by intro v hv; rw [HCS.out] at hv; rw [List.eq_of_mem_replicate hv]; rfl
  go_wp2_with (refine wpList_copy_splice rfl (.tmp 31) (.tmp 32) 22 22 rfl 9 Try.underlying22 hsz (some ⟨w1.heap.size, 0, none⟩) (some ⟨g, 0, none⟩) n n 1 1 rfl rfl w1.heap.size 0 (rp z 0 n) 9 HG0.out cs (hcl.trans HM3.out) aP aF a1 w1.heap.size w1 (below_new (Below.refl _ _) _) (Nat.le_refl _) ?_; intro w4 hg4 hb4; rw [hcl])
  have hc4 : splice (rp z 0 n) 0 cs = rp z m0 n := by rw [HCS.out]; have := rp_splice z 0 m0 n (by omega); rwa [Nat.zero_add] at this
  have HW4 : Hid (w4.heap[w1.heap.size]? = some (.cells (rp z m0 n).toArray 9 (0, 0)) ∧ Below w1.heap.size w1 w4) := hidI ⟨by have := hg4.out; rwa [hc4] at this, hb4⟩
  clear hg4 hb4 hc4 aP aF a1 hcl HG0 HCS cs HM3 c0 l0 f0 HB hmk
  go_loopw [8] (fun i wr => ∃ m : Nat, m ≤ n ∧ (0 < n → 0 < m) ∧ i = .int .i64 m ∧ Hid (wr.heap[w1.heap.size]? = some (.cells (rp z m n).toArray 9 (0, 0)) ∧ Below w1.heap.size w1 wr)) (fun i _ => n - (intOf i).toNat)
  case atStart => exact ⟨m0, hm1, hm2, rfl, HW4⟩
  case round =>
    obtain ⟨m, hm, hmp, rfl, hI⟩ := hrel
    by_cases hlt : m < n
    · have hlt' : decide ((m : Int) < (n : Int)) = true := decide_eq_true (by omega)
      have hne : ¬ (n = m) := by omega
      have hle : (m : Int) ≤ (n : Int) := by omega
      obtain ⟨j, hj⟩ : ∃ j, j = Nat.min m (n - m) := ⟨_, rfl⟩
      have hj0 : 0 < j ∧ m + j ≤ n ∧ j ≤ m := by
        have e : Nat.min m (n - m) = min m (n - m) := rfl
        rw [e] at hj; omega
      obtain ⟨cs, hcs⟩ : ∃ cs, cs = List.replicate j (Value.string z) := ⟨_, rfl⟩
      have hcl : cs.length = j := by rw [hcs]; simp
      have aQ : ∀ q v, cs[q]? = some v → wr.drew.cell? ((⟨w1.heap.size, 0, none⟩ : Addr).add q) = some v := by
        intro q v hq
        rw [hcs, List.getElem?_replicate] at hq
        split at hq
        · cases hq
          have hh := hI.out.1
          rw [Kp.add_plain', Nat.zero_add]
          show wr.cell? _ = _
          simp only [World.cell?, hh, Option.isSome_none, Bool.false_eq_true, if_false]
          simp only [rp, List.getElem?_toArray]
          rw [List.getElem?_append_left (by simp; omega), List.getElem?_replicate, if_pos (by omega)]
        · cases hq
      have aF : m + cs.length ≤ (rp z m n).length := by rw [rp_len z m n hm]; omega
      have a1 : ∀ v ∈ cs, v.oneCell' = true := by intro v hv; rw [hcs] at hv; rw [List.eq_of_mem_replicate hv]; rfl
      have HCS := hidI hcs
      have HJ := hidI hj
      clear hcs hj
      have hgd : wr.drew.heap[w1.heap.size]? = some (.cells (rp z m n).toArray 9 (0, 0)) := hI.out.1
      have hbd : Below w1.heap.size w1 wr.drew := hI.out.2.drew
      have hcj : cs.length = Nat.min m (n - m) := hcl.trans HJ.out
      have HGD := hidI hgd
      have HAP := hidI aQ
      have HCJ := hidI hcj
      clear hgd aQ hcj
      go_wp2_with fail
      go_region_law (refine step_copy_splice rfl (.tmp 41) (.tmp 44) 22 22 rfl 9 Try.underlying22 hsz (some ⟨w1.heap.size, m, none⟩) (some ⟨w1.heap.size, 0, none⟩) (n - m) (n - m) m n (by simp [Act.eval, Act.put]) (by simp [Act.eval, Act.put]) w1.heap.size m (rp z m n) 9 HGD.out cs HCJ.out (fun _ => ⟨rfl, _, rfl, HAP.out⟩) aF a1 w1.heap.size w1 hbd (Nat.le_refl _) ?_; intro w5 hg5 hb5; rw [hcl])
      have hc5 : splice (rp z m n) m cs = rp z (m + j) n := by rw [HCS.out]; exact rp_splice z m j n hj0.2.1
      have HW5 : Hid (w5.heap[w1.heap.size]? = some (.cells (rp z (m + j) n).toArray 9 (0, 0)) ∧ Below w1.heap.size w1 w5) := hidI ⟨by have := hg5.out; rwa [hc5] at this, hb5⟩
      clear hc5 hg5 hb5
      simp only [Act.put, List.getElem_toArray, List.getElem_cons_succ, List.getElem_cons_zero, List.setIfInBounds_toArray, List.set_cons_zero, List.set_cons_succ]
      go_wp2_with fail
      have hwr : IntKind.i64.wrap ((m : Int) + (j : Int)) = ((m + j : Nat) : Int) := by
        rw [show IntKind.i64.wrap ((m : Int) + (j : Int)) = wrap64 ((m : Int) + (j : Int)) by unfold wrap64; exact IntKind.wrap_i64 _]; unfold wrap64; omega
      rw [hwr]
      go_roundw
      · exact ⟨m + j, by omega, by omega, rfl, HW5⟩
      · simp [intOf]; omega
    · have hlt' : decide ((m : Int) < (n : Int)) = false := decide_eq_false (by omega)
      obtain rfl : m = n := by omega
      have hfin : Hid (RpP z m w1 (.returned (.slice (some ⟨w1.heap.size, 0, none⟩) m m)) wr) := hidI (by
        refine ⟨_, rfl, ⟨by simp [sl], .inr ⟨w1.heap.size, m, _, by simp, Nat.le_refl _, hI.out.1, by simp, by simp only [maxLen]; omega, by simp [rp_len], ?_⟩⟩, hI.out.2⟩
        rw [rp_full]
        simp only [List.size_toArray, List.length_replicate, Nat.mul_one, List.toList_toArray, List.take_replicate, Nat.min_self]
        rw [strs_encs]; simp [encs])
      go_wp2_with fail
      go_ret
      exact hfin.out
end Go.Proofs.Ytckfkbmefdmedaa
namespace Go.Proofs.Ytckfkbmefdmedaa.Q
open Go.RowKit Go.Proofs.YtckfkbmefdmedaaW.PrintWords Go.Proofs.YtckfkbmefdmedaaW.PrintLast
set_option linter.unusedVariables false
set_option linter.unusedSimpArgs false
def strings_Repeat.f (a0 : ByteArray) (a1 : Int) : Option ByteArray := if 0 ≤ a1 ∧ a1 ≤ 9223372036854775807 ∧ a0.size * a1.toNat ≤ 140737488355328 then some ⟨(Lib.repeatL a0.data.toList a1.toNat).toArray⟩ else none
theorem strings_Repeat.calls (a0 : ByteArray) (a1 : Int) (r : ByteArray) (w : World) (h : strings_Repeat.f a0 a1 = some r) : Calls Try.prog 17 #[.string a0, .int .i64 a1] w fun e w' => e = .returned (.string r) ∧ Below w.heap.size w w' := by
  unfold strings_Repeat.f at h
  split at h
  · rename_i hb
    cases h
    have := Go.Proofs.Try.strings_Repeat a0 a1.toNat w (by omega) hb.2.2
    rwa [Int.toNat_of_nonneg hb.1] at this
  · cases h
end Go.Proofs.Ytckfkbmefdmedaa.Q
namespace Go.Proofs.Ytckfkbmefdmedaa
open Go.RowKit Go.Proofs.Kq Go.Proofs.Ytckfkbmefdmedaa.Q
open Go.Proofs.YtckfkbmefdmedaaW.PrintWords (pw_cell_below Kd Kd.C Kd.C_below encs)
set_option linter.unusedVariables false
set_option linter.unusedSimpArgs false
def e64 : ByteArray := ⟨(Lib.repeatL [0] 64).toArray⟩
theorem e64_size : e64.size = 64 := by
  unfold e64; show (List.toArray _).size = 64; rw [List.size_toArray, Lib.repeatL_length]; rfl
theorem rep_e64 : strings_Repeat.f ⟨#[0]⟩ 64 = some e64 := by
  unfold strings_Repeat.f
  rw [if_pos ⟨by omega, by omega, by show 1 * _ ≤ _; omega⟩]
  have e1 : (64 : Int).toNat = 64 := rfl
  have e2 : (⟨#[0]⟩ : ByteArray).data.toList = [0] := rfl
  rw [e1, e2]; unfold e64; rfl
def EmP (w : World) (e : Ending) (w' : World) : Prop := e = .returned (.string e64) ∧ Below w.heap.size w w'
theorem empty_any (w : World) : Calls Try.prog 32 #[] w (EmP w) := by
  have hr := strings_Repeat.calls ⟨#[0]⟩ 64 e64 w rep_e64
  go_enter Try.func32, Try.ntmps32
  go_wp2_with fail
  with_reducible refine hr.mono ?_
  rintro e w1 ⟨rfl, hb⟩
  have hfin : Hid (EmP w (.returned (.string e64)) w1) := hidI ⟨rfl, hb⟩
  clear hr hb
  simp only []
  go_wp2_with fail
  go_ret
  exact hfin.out
def NwP (n : Nat) (w : World) (e : Ending) (w' : World) : Prop := ∃ d v1, e = .returned (.pointer (some ⟨d, 0, none⟩)) ∧ DT w' w.heap.size d v1 (.slice none 0 0) ⟨List.replicate n e64, [], -1, false⟩ ∧ w.heap.size ≤ d ∧ Below w.heap.size w w'
set_option maxRecDepth 100000 in
theorem new_any (n : Nat) (w : World) (hn : n ≤ 65536) : Calls Try.prog 23 #[.int .i64 n] w (NwP n w) := by
  have g1 : decide ((n : Int) < 0) = false := decide_eq_false (by omega)
  have g2 : decide ((65536 : Int) < (n : Int)) = false := decide_eq_false (by omega)
  go_enter Try.func23, Try.ntmps23
  go_wp2_with fail
  with_reducible refine (empty_any w).mono ?_
  rintro e w1 ⟨rfl, hb1⟩
  have HB1 := hidI hb1
  clear hb1
  simp only []
  go_wp2_with fail
  have hrep := repeat_any e64 w1.heap.size n (w1.alloc (.cells #[.string e64] 9)) (Blk.new' rfl) (by omega)
  with_reducible refine hrep.mono ?_
  rintro e w2 ⟨v, rfl, hO, hb2⟩
  simp only []
  have hb2' : Below w.heap.size w w2 := below_step (below_new HB1.out _) hb2
  have hO' : Strs w2 w.heap.size v (List.replicate n e64) := hO.lower (below_new HB1.out _).size
  have hfin : Hid (NwP n w (.returned (.pointer (some ⟨w2.heap.size, 0, none⟩))) (w2.alloc (.cells #[v, .slice none 0 0, .int .i64 (-1), .bool false] 132))) := hidI
    ⟨w2.heap.size, v, rfl, ⟨Blk.new' rfl, hO'.alloc _, Go.Proofs.Kq.Own.nil _ _ _ _ _⟩, hb2'.size, below_new hb2' _⟩
  obtain ⟨A, c, rfl, _⟩ := hO.slice_
  clear hO hO' hb2 hb2' hrep
  rw [List.length_replicate] at hfin
  go_wp2_with fail
  go_ret
  exact hfin.out
end Go.Proofs.Ytckfkbmefdmedaa
namespace Go.Proofs.Ytckfkbmefdmedaa
open Go.RowKit Go.Proofs.Kq Go.Proofs.Ytckfkbmefdmedaa.Q
open Go.Proofs.YtckfkbmefdmedaaW.PrintWords (pw_cell_below Kd Kd.C Kd.C_below Kd.R_of_own Kd.R_reads encs)
set_option linter.unusedVariables false
set_option linter.unusedSimpArgs false
def blkC (s : ByteArray) : ByteArray := s ++ ⟨(Lib.repeatL [46] (64 - s.size)).toArray⟩
theorem blkC_size (s : ByteArray) (h : s.size ≤ 64) : (blkC s).size = 64 := by
  unfold blkC
  rw [ByteArray.size_append]
  show s.size + (List.toArray _).size = 64
  rw [List.size_toArray, Lib.repeatL_length]; simp; omega
def BkP (s : ByteArray) (w : World) (e : Ending) (w' : World) : Prop := e = .returned (.string (blkC s)) ∧ Below w.heap.size w w'
theorem block_any (s : ByteArray) (w : World) (h : s.size ≤ 64) : Calls Try.prog 25 #[.string s] w (BkP s w) := by
  obtain ⟨m, hm⟩ : ∃ m, m = 64 - s.size := ⟨_, rfl⟩
  have hmi : 64 - (s.size : Int) = (m : Int) := by omega
  obtain ⟨z, hz⟩ : ∃ z : ByteArray, z = ⟨(Lib.repeatL [46] m).toArray⟩ := ⟨_, rfl⟩
  have hzs : z.size = m := by rw [hz]; show (List.toArray _).size = m; rw [List.size_toArray, Lib.repeatL_length]; simp
  have hr : strings_Repeat.f ⟨#[46]⟩ (m : Int) = some z := by
    unfold strings_Repeat.f
    rw [if_pos ⟨by omega, by omega, by show 1 * _ ≤ _; omega⟩, Int.toNat_natCast, hz]
  have hc := strings_Repeat.calls ⟨#[46]⟩ m z w hr
  have hf : blkC s = s ++ z := by unfold blkC; rw [hz, hm]
  have hbd : ¬ (9223372036854775807 < s.size + m) := by omega
  clear hm hz hr
  go_enter Try.func25, Try.ntmps25
  go_wp2_with fail
  with_reducible refine hc.mono ?_
  rintro e w1 ⟨rfl, hb1⟩
  have hfin : Hid (BkP s w (.returned (.string (s ++ z))) w1) := hidI (by rw [← hf]; exact ⟨rfl, hb1⟩)
  clear hb1 hc hf
  simp only []
  go_wp2_with fail
  go_ret
  exact hfin.out
theorem DS_lt {w : World} {base d : Nat} {v1 v2 : Value} {s : DkS} (h : DT w base d v1 v2 s) {k : Nat} (hk : DS d v1 v2 k) : k < w.heap.size := by
  rcases hk with rfl | hk | hk
  · exact h.blk.lt
  · exact h.own.lt hk
  · exact h.pend.lt hk
theorem C_u8 (w : World) (n : Int) : Kd.C (Kd.int .u8) (w.alloc (.cells #[.int .u8 n] 5)) (some ⟨w.heap.size, 0, none⟩) 1 [n] := by
  have ho : (w.alloc (.cells #[.int .u8 n] 5)).ownsRow w.heap.size 5 1 (.slice (some ⟨w.heap.size, 0, none⟩) 1 1) [n].length (encs (Value.int .u8) [n]) :=
    ⟨rfl, .inr ⟨w.heap.size, 1, #[.int .u8 n], rfl, Nat.le_refl _, by (show (w.heap.push _)[w.heap.size]? = _; simp), Nat.le_refl _, by decide, rfl, rfl⟩⟩
  obtain ⟨A, c, e, _, hC⟩ := Kd.R_reads (Kd.R_of_own (enc := Value.int .u8) (h1 := fun _ => rfl) (ok := fun _ => True) ho (fun _ _ => trivial))
  injection e with e1
  subst e1
  exact hC
end Go.Proofs.Ytckfkbmefdmedaa
namespace Go.Proofs.Ytckfkbmefdmedaa
open Go.RowKit Go.Proofs.Kq Go.Proofs.Ytckfkbmefdmedaa.Q
open Go.Proofs.YtckfkbmefdmedaaW.PrintWords (pw_cell_below Kd Kd.C Kd.C_below)
set_option linter.unusedVariables false
set_option linter.unusedSimpArgs false
theorem Fr.toB {S : Nat → Prop} {w w1 : World} {B : Nat} (h : Fr S w w1) (hS : ∀ k, S k → B ≤ k) (hB : B ≤ w.heap.size) : Below B w w1 :=
  ⟨h.os, h.tape, h.output, h.size, fun k hk => h.block k (by omega) (fun s => by have := hS k s; omega)⟩
theorem DS_ge {w : World} {base d : Nat} {v1 v2 : Value} {s : DkS} (h : DT w base d v1 v2 s) (hd : base ≤ d) {k : Nat} (hk : DS d v1 v2 k) : base ≤ k := by
  rcases hk with rfl | hk | hk
  · exact hd
  · exact h.own.ge hk
  · exact h.pend.ge hk
def r62 : ByteArray := ⟨(Lib.repeatL [0] 62).toArray⟩
theorem r62_size : r62.size = 62 := by
  unfold r62; show (List.toArray _).size = 62; rw [List.size_toArray, Lib.repeatL_length]; rfl
theorem rep_r62 : strings_Repeat.f ⟨#[0]⟩ 62 = some r62 := by
  unfold strings_Repeat.f
  rw [if_pos ⟨by omega, by omega, by show 1 * _ ≤ _; omega⟩]
  have e1 : (62 : Int).toNat = 62 := rfl
  have e2 : (⟨#[0]⟩ : ByteArray).data.toList = [0] := rfl
  rw [e1, e2]; unfold r62; rfl
def abc : ByteArray := ⟨#[97, 98, 99]⟩
theorem torn_ab : tearD (blkC abc) e64 2 = (⟨#[97, 98]⟩ : ByteArray) ++ r62 := by
  have h0 : ∀ n, Lib.repeatL [0] n = List.replicate n 0 := fun n => by simpa using Lib.repeatL_replicate 0 1 n
  apply ByteArray.ext
  apply Array.ext'
  unfold tearD e64 r62 blkC
  simp only [ByteArray.data_append, ByteArray.data_extract, Array.toList_append, Array.toList_extract, List.extract, h0]
  have e1 : (List.drop 0 (abc.data.toList ++ (Lib.repeatL [46] (64 - abc.size)))).take (2 - 0) = [97, 98] := rfl
  have e2 : (List.drop 2 (List.replicate 64 (0 : UInt8))).take (64 - 2) = List.replicate 62 0 := by rw [List.drop_replicate, List.take_replicate]; rfl
  rw [e1, e2]
set_option maxRecDepth 100000 in
set_option maxHeartbeats 2000000 in
theorem lives05_any (w : World) : Calls Try.prog 22 #[] w fun e w' => e = .returned (.bool true) ∧ Below w.heap.size w w' := by
  have hN : Calls Try.prog 23 #[.int .i64 1] w (NwP 1 w) := new_any 1 w (by omega)
  go_enter Try.func22, Try.ntmps22
  go_wp2_with fail
  with_reducible refine hN.mono ?_
  rintro e w1 ⟨d, v1, rfl, hD1, hd, hb1⟩
  clear hN
  simp only []
  go_wp2_with fail
  have habc : abc.size = 3 := rfl
  have hBk : Calls Try.prog 25 #[.string ⟨#[97, 98, 99]⟩] w1 (BkP abc w1) := block_any abc w1 (by omega)
  with_reducible refine hBk.mono ?_
  rintro e w2 ⟨rfl, hb2⟩
  have hD2 := hD1.below hb2
  have hs2 : (wrS ⟨List.replicate 1 e64, [], -1, false⟩ 0 (blkC abc)) = (0, ⟨List.replicate 1 e64, [⟨0, blkC abc⟩], -1, false⟩) := by
    unfold wrS
    rw [if_pos (by decide), if_pos (blkC_size abc (by omega))]; rfl
  have hW := write_any w.heap.size d v1 (.slice none 0 0) ⟨List.replicate 1 e64, [], -1, false⟩ 0 (blkC abc) w2 hD2 (Nat.le_trans hb1.size hb2.size) (by decide) (by decide)
  rw [hs2] at hW
  have HB2 := hidI (below_step hb1 hb2)
  clear hBk hb2 hb1 hD1 hD2 hs2 habc
  simp only []
  go_wp2_with fail
  with_reducible refine hW.mono ?_
  rintro e w3 ⟨rfl, v3, hD3, hF3, hP3⟩
  clear hW
  have hb3 : Below w.heap.size w w3 := HB2.out.trans (Fr.toB hF3 (fun k hk => by
    rcases hk with rfl | hk | hk
    · exact hd
    · exact hD3.own.ge hk
    · cases hk) HB2.out.size)
  have HB3 := hidI hb3
  have HD3 := hidI hD3
  clear hF3 hP3 hb3 hD3 HB2
  simp only []
  go_wp2_with fail
  have hbx := below_new (Below.refl w3.heap.size w3) (.cells #[.int .u8 2] 5)
  have hDx := HD3.out.below hbx
  have hR : Calls Try.prog 29 #[.pointer (some ⟨d, 0, none⟩), .slice (some ⟨w3.heap.size, 0, none⟩) 1 1] (w3.alloc (.cells #[.int .u8 2] 5)) _ :=
    restart_any w.heap.size d v1 v3 ⟨List.replicate 1 e64, [⟨0, blkC abc⟩], -1, false⟩ (some ⟨w3.heap.size, 0, none⟩) 1 [2] _ hDx (Nat.le_trans HB3.out.size hbx.size) (C_u8 w3 2) (by decide)
      (fun _ b off e hk => by cases e; have := DS_lt HD3.out hk; omega) (by decide) (fun q hq => by rcases List.mem_singleton.1 hq with rfl; exact ⟨by decide, by decide⟩) (fun b hb => by rw [List.eq_of_mem_replicate hb]; exact e64_size) (fun q hq => by rcases List.mem_singleton.1 hq with rfl; exact blkC_size abc (by decide))
  with_reducible refine hR.mono ?_
  rintro e w4 ⟨rfl, v4, hD4, hF4, hP4⟩
  clear hR
  have hs4 : rsS ⟨List.replicate 1 e64, [⟨0, blkC abc⟩], -1, false⟩ [2] = ⟨[(⟨#[97, 98]⟩ : ByteArray) ++ r62], [], -1, false⟩ := by
    rw [← torn_ab]; rfl
  rw [hs4] at hD4
  have hb4 : Below w.heap.size w w4 := (HB3.out.trans (hbx.mono HB3.out.size)).trans (Fr.toB hF4 (fun k hk => DS_ge hDx hd hk) (Nat.le_trans HB3.out.size hbx.size))
  have hRd := read_any w.heap.size d v1 v4 _ 0 w4 hD4 (by decide) (by decide)
  have hrf : rdF ⟨[(⟨#[97, 98]⟩ : ByteArray) ++ r62], [], -1, false⟩ 0 = ((⟨#[97, 98]⟩ : ByteArray) ++ r62, 0) := rfl
  rw [hrf] at hRd
  have HB4 := hidI hb4
  clear hb4 hD4 hF4 hP4 hrf hs4 hDx hbx HD3 HB3 hd
  simp only []
  go_wp2_with fail
  with_reducible refine hRd.mono ?_
  rintro e w5 ⟨rfl, hb5⟩
  have HB5 := hidI (below_step HB4.out hb5)
  clear hRd hb5 HB4
  simp only []
  go_wp2_with fail
  have hrp := strings_Repeat.calls ⟨#[0]⟩ 62 r62 w5 rep_r62
  with_reducible refine hrp.mono ?_
  rintro e w6 ⟨rfl, hb6⟩
  have hfin : Hid (Below w.heap.size w w6) := hidI (below_step HB5.out hb6)
  have h62 := r62_size
  clear hrp hb6 HB5
  simp only []
  go_wp2_with fail
  go_ret
  exact ⟨rfl, hfin.out⟩
end Go.Proofs.Ytckfkbmefdmedaa
namespace Go.Proofs.Ytckfkbmefdmedaa
open Go.RowKit Go.Proofs.Kq
set_option linter.unusedVariables false
set_option linter.unusedSimpArgs false
theorem setAll_64 : ∀ (l : List Wr) (bs : List ByteArray), All64 bs → Wr64 l → All64 (setAll bs l)
  | [], bs, h, _ => h
  | p :: l, bs, h, hw => setAll_64 l _ (all64_set h _ (hw p (by simp))) (fun q hq => hw q (by simp [hq]))
end Go.Proofs.Ytckfkbmefdmedaa
namespace Go.Proofs.Ytckfkbmefdmedaa
open Go.RowKit Go.Proofs.Kq
set_option linter.unusedVariables false
set_option linter.unusedSimpArgs false
structure Good (n m : Nat) (s : DkS) : Prop where
  len : s.bs.length = n
  b64 : All64 s.bs
  w64 : Wr64 s.ps
  ins : inB n s.ps
  few : s.ps.length ≤ m
  fuse : -9223372036854775808 ≤ s.fuse ∧ s.fuse ≤ 9223372036854775807
theorem thN_in {f : Int} (h : -9223372036854775808 ≤ f ∧ f ≤ 9223372036854775807) : -9223372036854775808 ≤ thN f ∧ thN f ≤ 9223372036854775807 := by
  unfold thN; split <;> omega
theorem us_in {n : Nat} {dead : Bool} {at_ : Int} (h : usF n dead at_ = 0) : dead = false ∧ 0 ≤ at_ ∧ at_ < n := by
  unfold usF at h
  cases dead
  · refine ⟨rfl, ?_⟩
    rw [if_neg (by decide)] at h
    split at h <;> omega
  · rw [if_pos rfl] at h; omega
theorem wrS_good {n m : Nat} {s : DkS} (h : Good n m s) (at_ : Int) (x : ByteArray) : Good n (m + 1) (wrS s at_ x).2 := by
  have hm : Good n (m + 1) s := ⟨h.len, h.b64, h.w64, h.ins, Nat.le_succ_of_le h.few, h.fuse⟩
  unfold wrS
  split
  · rename_i hu
    split
    · rename_i hx
      obtain ⟨_, h1, h2⟩ := us_in hu
      rw [h.len] at h2
      refine ⟨h.len, h.b64, ?_, ?_, ?_, thN_in h.fuse⟩
      · intro p hp
        rcases List.mem_append.1 hp with h3 | h3
        · exact h.w64 p h3
        · rcases List.mem_singleton.1 h3 with rfl; exact hx
      · intro p hp
        rcases List.mem_append.1 hp with h3 | h3
        · exact h.ins p h3
        · rcases List.mem_singleton.1 h3 with rfl; exact ⟨h1, h2⟩
      · show (s.ps ++ [_]).length ≤ m + 1
        have := h.few
        simp; omega
    · exact hm
  · exact hm
theorem syS_good {n m : Nat} {s : DkS} (h : Good n m s) : Good n m (syS s).2 := by
  unfold syS
  split
  · exact h
  · split
    · exact ⟨by show (setAll s.bs s.ps).length = n; rw [setAll_len, h.len], setAll_64 _ _ h.b64 h.w64, fun p hp => by simp at hp, fun p hp => by simp at hp, Nat.zero_le _, thN_in h.fuse⟩
    · exact ⟨h.len, h.b64, h.w64, h.ins, h.few, thN_in h.fuse⟩
theorem rsS_good {n m : Nat} {s : DkS} (h : Good n m s) (ks : List Int) : Good n m (rsS s ks) := by
  have := rsAll_ok ks s.ps 0 s.bs h.b64 h.w64 (by rw [h.len]; exact h.ins)
  exact ⟨by show (rsAll ks 0 s.bs s.ps).length = n; rw [this.1, h.len], this.2, fun p hp => by simp [rsS] at hp, fun p hp => by simp [rsS] at hp, Nat.zero_le _, by show (-9223372036854775808 : Int) ≤ -1 ∧ (-1 : Int) ≤ 9223372036854775807; decide⟩
end Go.Proofs.Ytckfkbmefdmedaa
namespace Go.Proofs.Ytckfkbmefdmedaa
open Go.RowKit Go.Proofs.Kq
open Go.Proofs.YtckfkbmefdmedaaW.PrintWords (pw_cell_below Kd Kd.C Kd.C_below encs)
set_option linter.unusedVariables false
set_option linter.unusedSimpArgs false
set_option maxHeartbeats 4000000 in
set_option maxRecDepth 100000 in
theorem rrestart_any (base d : Nat) (v1 v2 : Value) (s : DkS) (AK : Option Addr) (ck : Nat) (ks : List Int) (w : World) (h : ET w base d v1 v2 s) (hb : base ≤ w.heap.size)
    (hK : Kd.C (Kd.int .u8) w AK ks.length ks) (hkv : ∀ k ∈ ks, 0 ≤ k ∧ k ≤ 255) (hK0 : 0 < ks.length → ∀ b off, AK = some ⟨b, off, none⟩ → ¬ ES d v1 v2 b)
    (hl : s.ps.length ≤ 5000000000000) (hin : inB s.bs.length s.ps) (hb64 : All64 s.bs) (hw64 : Wr64 s.ps) :
    Calls Try.prog 40 #[.pointer (some ⟨d, 0, none⟩), .slice AK ks.length ck] w (RuP base d v1 v2 (.returned (.tuple #[])) (rsS s ks) w) := by
  obtain ⟨bs, ps, fuse, dead⟩ := s
  have c0 := h.blk.c; have l0 := h.blk.lt; have f0 := h.blk.f
  have HD := hidI h
  obtain ⟨A2, c2, rfl, _⟩ := h.pend.slice_
  clear h
  go_enter Try.func40, Try.ntmps40
  go_wp2_with fail
  go_loopw [4] (fun i wr => ∃ k : Nat, k ≤ ps.length ∧ i = .int .i64 k ∧ Hid (Et wr base d v1 (.slice A2 ps.length c2) (rsAll ks 0 bs (ps.take k)) ps fuse dead ∧ Fr (ES d v1 (.slice A2 ps.length c2)) w wr)) (fun i _ => ps.length - (intOf i).toNat)
  case atStart => exact ⟨0, Nat.zero_le _, rfl, hidI ⟨HD.out, Fr.refl _ _⟩⟩
  case round =>
    obtain ⟨k, hk, rfl, hI⟩ := hrel
    have ce := hI.out.1.blk.c; have le := hI.out.1.blk.lt; have fe := hI.out.1.blk.f
    by_cases hlt : k < ps.length
    · have hin1 := hin ps[k] (List.getElem_mem hlt)
      have h0 : 0 < bs.length := by omega
      have hlt' : decide ((k : Int) < (ps.length : Int)) = true := decide_eq_true (by omega)
      obtain ⟨b2, rfl⟩ : ∃ b2, A2 = some ⟨b2, 0, none⟩ := by
        rcases hI.out.1.pend.cases_ with ⟨e, h⟩ | ⟨b, c, e, _⟩
        · rw [h] at hlt; simp at hlt
        · injection e with e1; exact ⟨b, e1⟩
      obtain ⟨q0, q1⟩ := wre_at hI.out.1.pend k hlt
      obtain ⟨m, hm⟩ : ∃ m : Nat, ps[k].at_ = (m : Int) := ⟨ps[k].at_.toNat, by omega⟩
      have hmb : m < bs.length := by omega
      obtain ⟨z, hz⟩ : ∃ z, z = ps[k].data := ⟨_, rfl⟩
      rw [hm] at q0
      rw [← hz] at q1
      have hz64 : z.size = 64 := by rw [hz]; exact hw64 _ (List.getElem_mem hlt)
      have hrk := rsAll_ok ks (ps.take k) 0 bs hb64 (fun q hq => hw64 q (List.mem_of_mem_take hq)) (fun q hq => hin q (List.mem_of_mem_take hq))
      obtain ⟨cut, hcut⟩ : ∃ cut, cut = keepAt ks k := ⟨_, rfl⟩
      have hcl : cut ≤ 64 := by rw [hcut]; exact keepAt_le _ _
      obtain ⟨b1, c3, rfl⟩ : ∃ b1 c3, v1 = .slice (some ⟨b1, 0, none⟩) bs.length c3 := by
        rcases HD.out.own.cases_ with ⟨e, h⟩ | ⟨b, c, e, _⟩
        · have h : bs = [] := h
          rw [h] at h0; simp at h0
        · exact ⟨b, c, e⟩
      have hbw := below_new (Below.refl wr.heap.size wr) (.cells #[.int .i64 (m : Int), .string z] 140)
      have hD' := hI.out.1.below hbw
      have hF' : Fr (ES d (.slice (some ⟨b1, 0, none⟩) bs.length c3) (.slice (some ⟨b2, 0, none⟩) ps.length c2)) w _ := hI.out.2.below hbw
      have hsl := hrk.1
      rw [← hsl] at hD'
      have hat := str_at hD'.own m (by omega)
      obtain ⟨y, hy⟩ : ∃ y, y = (rsAll ks 0 bs (ps.take k))[m]'(by omega) := ⟨_, rfl⟩
      rw [← hy] at hat
      have hy64 : y.size = 64 := by rw [hy]; exact hrk.2 _ (List.getElem_mem _)
      have qs := hat.1
      have qf := hat.2
      have hput := hD'.put m (tearD z y cut)
      have hst : rsAll ks 0 bs (ps.take (k + 1)) = (rsAll ks 0 bs (ps.take k)).set m (tearD z y cut) := by
        rw [List.take_succ_eq_append_getElem hlt, rsAll_snoc, hm, ← hz, Int.toNat_natCast, List.length_take, Nat.zero_add, Nat.min_eq_left hk, ← hcut, hy, List.getD_eq_getElem?_getD, List.getElem?_eq_getElem (by omega), Option.getD_some]
      rw [← hst, hsl] at hput
      rw [hsl] at hD'
      have cd := hD'.blk.c; have ld := hD'.blk.lt; have fd := hD'.blk.f
      have hBn : Blk (wr.alloc (.cells #[.int .i64 (m : Int), .string z] 140)) wr.heap.size #[.int .i64 (m : Int), .string z] 140 := Blk.new' rfl
      have cn := hBn.c; have ln := hBn.lt; have fn := hBn.f
      have HN := hidI (And.intro hput (hF'.setCell (p := ⟨b1, m, none⟩) (fun _ => .inr (.inl rfl)) (.string (tearD z y cut))))
      unfold tearD at HN
      have hmb' : decide ((m : Int) < (bs.length : Int)) = true := decide_eq_true (by omega)
      have HCUT := hidI hcut
      clear hD' hF' hput hat hBn hst hbw hy hsl hrk hz hm hin1 hcut
      by_cases hkk : k < ks.length
      · have hkk' : decide ((k : Int) < (ks.length : Int)) = true := decide_eq_true (by omega)
        obtain ⟨bk, ok, hAK, hcell⟩ := C_ints hK (by omega)
        have qk0 := hcell k hkk
        obtain ⟨kv, hkv2⟩ : ∃ kv, kv = ks[k] := ⟨_, rfl⟩
        rw [← hkv2] at qk0
        have qk := hI.out.2.cell (hK0 (by omega) bk ok hAK) qk0
        have hmin : min kv 64 = (cut : Int) := by
          have := hkv ks[k] (List.getElem_mem hkk)
          have e := HCUT.out
          unfold keepAt at e
          rw [if_pos hkk, List.getD_eq_getElem?_getD, List.getElem?_eq_getElem hkk, Option.getD_some] at e
          rw [hkv2]; omega
        have hkv3 : 0 ≤ kv ∧ kv ≤ 255 := by rw [hkv2]; exact hkv _ (List.getElem_mem hkk)
        subst hAK
        have qk' := pw_cell_below (below_new (Below.refl wr.heap.size wr) (.cells #[.int .i64 (m : Int), .string z] 140)) qk
        clear hkv2 hcell qk0
        as_aux_lemma =>
          go_wp2_with fail
          generalize wr.alloc (.cells #[.int .i64 (m : Int), .string z] 140) = wx at *
          go_region
          go_wp2_with fail
          go_roundw
          · exact ⟨k + 1, by omega, by simp, hidI ⟨⟨HN.out.1.blk.dr, HN.out.1.own.drew, HN.out.1.pend.drew⟩, HN.out.2.drew⟩⟩
          · simp [intOf]; omega
      · have hkk' : decide ((k : Int) < (ks.length : Int)) = false := decide_eq_false (by omega)
        obtain rfl : cut = 0 := by have := HCUT.out; unfold keepAt at this; rw [if_neg hkk] at this; exact this
        rw [show z.extract 0 0 ++ y.extract 0 64 = y.extract 0 64 by apply ByteArray.ext; simp] at HN
        as_aux_lemma =>
          go_wp2_with fail
          generalize wr.alloc (.cells #[.int .i64 (m : Int), .string z] 140) = wx at *
          go_region
          go_wp2_with fail
          go_roundw
          · exact ⟨k + 1, by omega, by simp, hidI ⟨⟨HN.out.1.blk.dr, HN.out.1.own.drew, HN.out.1.pend.drew⟩, HN.out.2.drew⟩⟩
          · simp [intOf]; omega
    · have hlt' : decide ((k : Int) < (ps.length : Int)) = false := decide_eq_false (by omega)
      have hD := hI.out.1
      rw [List.take_of_length_le (by omega)] at hD
      have hfin : Hid (RuP base d v1 (.slice A2 ps.length c2) (.returned (.tuple #[])) (rsS ⟨bs, ps, fuse, dead⟩ ks) w (.returned (.tuple #[])) (((wr.setCell ⟨d, 1, none⟩ (.slice none 0 0)).setCell ⟨d, 3, none⟩ (.bool false)).setCell ⟨d, 2, none⟩ (.int .i64 (-1)))) := hidI (by
        have h1 : Et (wr.setCell ⟨d, 1, none⟩ (.slice none 0 0)) base d v1 (.slice none 0 0) (rsAll ks 0 bs ps) [] fuse dead := ⟨hD.blk.st 1 _, hD.own.far (p := ⟨d, 1, none⟩) (hD.own.ne hD.blk (by decide)) _, Go.Proofs.Kq.Own.nil _ _ _ _ _⟩
        refine ⟨rfl, .slice none 0 0, (h1.st.2 false).st.1 (-1), ((hI.out.2.setCell (fun _ => .inl rfl) _).setCell (fun _ => .inl rfl) _).setCell (fun _ => .inl rfl) _, ?_⟩
        rintro q (h | h | h)
        · exact .inl (.inl h)
        · exact .inl (.inr (.inl h))
        · cases h)
      have cd := hD.blk.c; have ld := hD.blk.lt; have fd := hD.blk.f
      clear hD
      go_wp2_with fail
      refine bodyPost_end (results_none rfl _ _ _) rfl ?_
      exact hfin.out
end Go.Proofs.Ytckfkbmefdmedaa
namespace Go.Proofs.Ytckfkbmefdmedaa
open Go.RowKit Go.Proofs.Kq
open Go.Proofs.YtckfkbmefdmedaaW.PrintWords (pw_cell_below Kd Kd.C Kd.C_below encs)
set_option linter.unusedVariables false
set_option linter.unusedSimpArgs false
def zk (k : Nat) : ByteArray := ⟨(Lib.repeatL [0] k).toArray⟩
theorem zk_succ (k : Nat) : zk k ++ (⟨#[0]⟩ : ByteArray) = zk (k + 1) := by
  unfold zk
  rw [Lib.repeatL_add]
  apply ByteArray.ext
  simp [Lib.repeatL]
def REm (w : World) (e : Ending) (w' : World) : Prop := e = .returned (.string e64) ∧ w' = w
theorem rempty_any (w : World) : Calls Try.prog 81 #[] w (REm w) := by
  go_enter Try.func81, Try.ntmps81
  go_wp2_with fail
  go_loop [1, 2] (fun s i => ∃ k : Nat, k ≤ 64 ∧ i = .int .i64 k ∧ ∃ x : ByteArray, s = .string x ∧ x.size = k ∧ Hid (x = zk k)) (fun _ i => 64 - (intOf i).toNat)
  case atStart => exact ⟨0, by decide, rfl, ⟨#[]⟩, rfl, rfl, hidI rfl⟩
  case round =>
    obtain ⟨k, hk, rfl, x, rfl, hxs, hx⟩ := hrel
    by_cases hlt : k < 64
    · have g1 : decide ((k : Int) < 64) = true := decide_eq_true (by omega)
      have g2 : decide (k < 64) = true := decide_eq_true hlt
      have g3 : ¬ (9223372036854775807 < k + 1) := by omega
      have hnx : Hid (x ++ (⟨#[0]⟩ : ByteArray) = zk (k + 1)) := hidI (by rw [hx.out, zk_succ])
      go_wp2_with fail
      exact ⟨⟨k + 1, by omega, by simp, _, rfl, by rw [ByteArray.size_append, hxs]; rfl, hnx⟩, by simp [intOf]; omega⟩
    · have g1 : decide ((k : Int) < 64) = false := decide_eq_false (by omega)
      have g2 : decide (k < 64) = false := decide_eq_false hlt
      have hfin : Hid (REm w (.returned (.string x)) w) := hidI (by
        have e : x = e64 := by rw [hx.out, show k = 64 by omega]; rfl
        rw [e]; exact ⟨rfl, rfl⟩)
      clear hxs
      go_wp2_with fail
      go_ret
      exact hfin.out
def RNw (n : Nat) (w : World) (e : Ending) (w' : World) : Prop := ∃ v1, e = .returned (.pointer (some ⟨w.heap.size, 0, none⟩)) ∧ ET w' w.heap.size w.heap.size v1 (.slice none 0 0) ⟨List.replicate n e64, [], -1, false⟩ ∧ Below w.heap.size w w'
set_option maxRecDepth 100000 in
set_option maxHeartbeats 2000000 in
theorem rnew_any (n : Nat) (w : World) (hn : n ≤ 1000) : Calls Try.prog 36 #[.int .i64 n] w (RNw n w) := by
  go_enter Try.func36, Try.ntmps36
  go_wp2_with fail
  with_reducible refine (rempty_any _).mono ?_
  rintro e w1 ⟨rfl, hw1⟩
  have hB1 : Blk w1 w.heap.size #[.slice none 0 0, .slice none 0 0, .int .i64 (-1), .bool false] 65 := by rw [hw1]; exact Blk.new' rfl
  have hb1 : Below w.heap.size w w1 := by rw [hw1]; exact below_new (Below.refl _ _) _
  have HD1 : Hid (Et w1 w.heap.size w.heap.size (.slice none 0 0) (.slice none 0 0) [] [] (-1) false ∧ Below w.heap.size w w1) := hidI ⟨⟨hB1, Go.Proofs.Kq.Own.nil _ _ _ _ _, Go.Proofs.Kq.Own.nil _ _ _ _ _⟩, hb1⟩
  clear hB1 hb1
  subst hw1
  simp only []
  go_wp2_with fail
  obtain ⟨i0, hi0, hz0, hz1, hz2⟩ := info_parts info9s
  go_loopw [5] (fun i wr => ∃ k : Nat, k ≤ n ∧ i = .int .i64 k ∧ ∃ v1, Hid (Et wr w.heap.size w.heap.size v1 (.slice none 0 0) (List.replicate k e64) [] (-1) false ∧ Below w.heap.size w wr)) (fun i _ => n - (intOf i).toNat)
  case atStart => exact ⟨0, Nat.zero_le _, rfl, _, HD1⟩
  case round =>
    obtain ⟨k, hk, rfl, v1, hI⟩ := hrel
    by_cases hlt : k < n
    · have g1 : decide ((k : Int) < (n : Int)) = true := decide_eq_true (by omega)
      obtain ⟨A1, c1, rfl, _⟩ := hI.out.1.own.slice_
      have c0 := hI.out.1.blk.c; have l0 := hI.out.1.blk.lt; have f0 := hI.out.1.blk.f
      have NE : some w.heap.size ≠ (Value.slice A1 (List.replicate k e64).length c1).ownBlock := Ne.symm (hI.out.1.own.ne hI.out.1.blk (by decide))
      have hO := hI.out.1.own.below (below_new (Below.refl wr.heap.size wr) (.cells #[.string e64] 9))
      have hRd : Reads (wr.alloc (.cells #[.string e64] 9)) (wr.heap.size + 1) 1 (some ⟨wr.heap.size, 0, none⟩) 1 [.string e64] := ⟨rfl, fun _ => ⟨_, rfl, Nat.lt_succ_self _, fun j q hj => by
        have h2 := Blk.c (Blk.new' (w := wr) (b := wr.heap.size) (cs := #[.string e64]) (T := 9) rfl)
        rw [Kp.add_plain', Nat.zero_add, h2]
        simpa using hj⟩⟩
      have hbs := hI.out.2.size
      rw [List.length_replicate] at c0
      have hlr : (List.replicate k e64).length = k := List.length_replicate
      have HO := hidI hO
      have HRd := hidI hRd
      clear hO hRd
      go_wp2_with (at_builtin; refine wpList_append_any _ rfl (.tmp 18) (.tmp 20) 22 rfl w.heap.size 9 i0 (.string ⟨#[]⟩) 1 16 Try.underlying22 hi0 hz0 hz1 hz2 rfl (by decide) (.slice A1 k c1) (List.replicate k e64).length ((List.replicate k e64).flatMap sl) rfl ?aO (wr.heap.size + 1) (some ⟨wr.heap.size, 0, none⟩) 1 1 [.string e64] rfl HRd.out ?a1 ?aM ?aB ?aS ?_; (case aO => have := HO.out; rw [List.length_replicate] at this; exact this); (case a1 => intro q hq; rcases List.mem_singleton.1 hq with rfl; rfl); (case aM => simp only [maxLen]; omega); (case aB => omega); (case aS => simp; omega); intro v5 w5 hown hg hat; have hO5 := Go.Proofs.Kq.Own.snoc (l := sl) (p := e64) hown; obtain ⟨A5, c5, rfl, _⟩ := hO5.slice_; have hB5 := Blk.gb (hI.out.1.blk.al (.cells #[.string e64] 9)) hg (by rw [List.length_replicate] at NE; exact NE); have c5' := hB5.c; have l5' := hB5.lt; have f5' := hB5.f; clear hown)
      have e1 : (List.replicate k e64 ++ [e64]).length = k + 1 := by simp
      have e2 : List.replicate k e64 ++ [e64] = List.replicate (k + 1) e64 := by rw [List.replicate_succ']
      have hOn : Strs w5 w.heap.size (.slice A5 (k + 1) c5) (List.replicate (k + 1) e64) := by
        rw [e1] at hO5
        rw [← e2]; exact hO5
      have hEt : Et (w5.setCell ⟨w.heap.size, 0, none⟩ (.slice A5 (k + 1) c5)) w.heap.size w.heap.size (.slice A5 (k + 1) c5) (.slice none 0 0) (List.replicate (k + 1) e64) [] (-1) false :=
        ⟨hB5.st 0 _, hOn.far (p := ⟨w.heap.size, 0, none⟩) (hOn.ne hB5 (by decide)) _, Go.Proofs.Kq.Own.nil _ _ _ _ _⟩
      have hba : Below w.heap.size w (wr.alloc (.cells #[.string e64] 9)) := below_new hI.out.2 _
      have hbe : Below w.heap.size w (w5.setCell ⟨w.heap.size, 0, none⟩ (.slice A5 (k + 1) c5)) := (Below.grown hba hg hba.size (fun q hq => hI.out.1.own.ge (by rw [List.length_replicate]; exact hq))).setCell (p := ⟨w.heap.size, 0, none⟩) (Nat.le_refl _) _
      exact ⟨⟨k + 1, by omega, by simp, _, hidI ⟨hEt, hbe⟩⟩, by simp [intOf]; omega⟩
    · have g1 : decide ((k : Int) < (n : Int)) = false := decide_eq_false (by omega)
      obtain rfl : k = n := by omega
      have hfin : Hid (RNw k w (.returned (.pointer (some ⟨w.heap.size, 0, none⟩))) wr) := hidI ⟨v1, rfl, hI.out.1, hI.out.2⟩
      go_wp2_with fail
      go_ret
      exact hfin.out
end Go.Proofs.Ytckfkbmefdmedaa
namespace Go.Proofs.Ytckfkbmefdmedaa.Q
open Go.RowKit
set_option linter.unusedVariables false
set_option linter.unusedSimpArgs false
def EvT {α : Type} (f : Nat → Option α) (v : α) : Prop := ∃ m, ∀ k, m ≤ k → f k = some v
section
variable {α β : Type} {f g : Nat → Option α} {v : α} {w : β}
theorem EvT.const (v : α) : EvT (fun _ => some v) v := ⟨0, fun _ _ => rfl⟩
theorem EvT.step (h : ∀ k, f (k + 1) = g k) (hg : EvT g v) : EvT f v := by
  obtain ⟨m, hm⟩ := hg
  refine ⟨m + 1, fun k hk => ?_⟩
  obtain ⟨j, rfl⟩ : ∃ j, k = j + 1 := ⟨k - 1, by omega⟩
  rw [h]; exact hm j (by omega)
theorem EvT.done (h : ∀ k, f (k + 1) = some v) : EvT f v := EvT.step h (EvT.const v)
theorem EvT.congr (h : ∀ k, f k = g k) (hg : EvT g v) : EvT f v := by
  obtain ⟨m, hm⟩ := hg
  exact ⟨m, fun k hk => by rw [h]; exact hm k hk⟩
theorem EvT.one (h : EvT f v) : ∃ k, f k = some v := by
  obtain ⟨m, hm⟩ := h
  exact ⟨m, hm m (Nat.le_refl _)⟩
end
theorem nx (i : Nat) (h : i < 1000000000000) : wrap64 ((i : Int) + 1) = ((i + 1 : Nat) : Int) := by
  unfold wrap64; omega
end Go.Proofs.Ytckfkbmefdmedaa.Q
namespace Go.Proofs.Ytckfkbmefdmedaa.Q
open Go.RowKit Go.Proofs.YtckfkbmefdmedaaW.PrintWords Go.Proofs.YtckfkbmefdmedaaW.PrintLast Go.Proofs.YtckfkbmefdmedaaW.PrintMore
attribute [local go_sem] max2_int min2_int max_two min_two max_three min_three max_four min_four   -- for this text's walks alone
set_option linter.unusedVariables false
set_option linter.unusedSimpArgs false
def souklaw05_small.l0 : Nat → Int → List (S62) → Int → Int → Option (Bool)
 | 0, _, _, _, _ => none
 | k + 1, x3, x6, x7, x8 => if x8 < x7 then (if 0 ≤ x8 then (if x8 < (x6.length : Int) then (souklaw05_small.l0 k (wrap64 (x3 + (wrap64 ((wrap64 (1 + (((rd_T62 x6 x8).f3).size : Int))) + (((rd_T62 x6 x8).f4).length : Int))))) x6 x7 (wrap64 (x8 + 1))) else (none)) else (none)) else (some (decide (x3 ≤ 5000)))
def souklaw05_small.f (k : Nat) (l0 : List (S62)) : Option (Bool) := souklaw05_small.l0 k 0 l0 (l0.length : Int) 0
set_option maxHeartbeats 8000000 in
set_option maxRecDepth 100000 in
theorem souklaw05_small.calls (k : Nat) (A0 : Option Addr) (c0 : Nat) (l0 : List (S62)) (r : Bool) (w : World) (hr0 : Kd.C k62 w A0 l0.length l0) (hc0 : l0.length ≤ c0) (h : souklaw05_small.f k l0 = some r) :
  Calls Try.prog 35 #[.slice A0 l0.length c0] w fun e w' => e = .returned (.bool r) ∧ Below w.heap.size w w' := by
 have hu62 := Try.underlying62
 have HR0 := Aside0.mk hr0
 have HC0 := Aside0.mk hc0
 clear hr0 hc0
 have HB := Aside0.mk (Below.refl w.heap.size w)
 have H : (souklaw05_small.l0 k 0 l0 (l0.length : Int) 0) = some r := h
 clear h
 have H' := Aside0.mk H
 clear H
 go_enter Try.func35, Try.ntmps35
 go_wp2
 go_loopg [3, 8] k (fun kq v3 v8 w' => ∃ (x3_1 : Int) (x8_1 : Int), v3 = .int .i64 x3_1 ∧ v8 = .int .i64 x8_1 ∧ Aside0 (souklaw05_small.l0 kq x3_1 l0 (l0.length : Int) x8_1 = some r) ∧ Aside0 (kq ≤ k) ∧ Aside0 (Below w.heap.size w w'))
 case atStart => exact ⟨(0), (0), (by first | rfl | (simp; done) | (simp [*]; done)), (by first | rfl | (simp; done) | (simp [*]; done)), H', ⟨Nat.le_refl _⟩, ⟨by repeat (first | (with_reducible first | exact HB.out | apply below_alloc | apply pw_below_drewN | apply below_drew1) | exact HB.out)⟩⟩
 case round =>
  clear H'
  obtain ⟨x3_1, x8_1, rfl, rfl, HA, HK1, HB⟩ := hrel
  cases gk with
  | zero => exact absurd HA.out (by simp [souklaw05_small.l0])
  | succ k1 =>
   have H := HA.out
   clear HA
   simp only [souklaw05_small.l0] at H
   by_cases c2 : x8_1 < (l0.length : Int)
   ·rw [if_pos c2] at H
    have c2b0 : decide (x8_1 < (l0.length : Int)) = true := decide_eq_true c2
    clear c2
    by_cases c3 : 0 ≤ x8_1
    ·rw [if_pos c3] at H
     have c3b0 : decide (0 ≤ x8_1) = true := decide_eq_true c3
     clear c3
     by_cases c4 : x8_1 < (l0.length : Int)
     ·rw [if_pos c4] at H
      have c4b0 : decide (x8_1 < (l0.length : Int)) = true := decide_eq_true c4
      clear c4
      have H' := Aside0.mk H
      clear H
      have p113 : 0 ≤ (x8_1 : Int) := of_decide_eq_true (by first | (with_reducible assumption) | assumption)
      have q113 : x8_1 < (l0.length : Int) := of_decide_eq_true (by first | (with_reducible assumption) | assumption)
      obtain ⟨ad113, A113_4, c113_4, e113, hx113_0, hx113_1, hx113_2, hx113_3, hx113_4, hl113_4, hi113_4⟩ := at_T62 HR0.out x8_1 p113 q113
      cases e113
      replace hx113_0 := (HB.out.cell (World.block_lt_of_cell? w _ hx113_0)).trans hx113_0
      replace hx113_1 := (HB.out.cell (World.block_lt_of_cell? w _ hx113_1)).trans hx113_1
      replace hx113_2 := (HB.out.cell (World.block_lt_of_cell? w _ hx113_2)).trans hx113_2
      replace hx113_3 := (HB.out.cell (World.block_lt_of_cell? w _ hx113_3)).trans hx113_3
      replace hx113_4 := (HB.out.cell (World.block_lt_of_cell? w _ hx113_4)).trans hx113_4
      have HR113_4 := Aside0.mk hi113_4
      have HC113_4 := Aside0.mk hl113_4
      clear hi113_4 hl113_4
      replace p113 := eq_true p113
      replace q113 := eq_true q113
      go_wp2_with (first | ((with_reducible refine gate_dst (N := 5) rfl ?_); refine box_event ?hg (N := 5) ?hd (cs := #[.int .u8 0, .int .i8 0, .int .i8 0, .string (⟨#[]⟩ : ByteArray), .slice none 0 0]) (t := 62) ?hr ?_; (case hd => rfl); (case hg => rfl); (case hr => first | (go_simp; done) | (go_simp; rfl)); intro gb114 hg w5 hbox hb; have n0_ := Aside0.mk (below_step (by repeat (first | (with_reducible first | exact HB.out | apply below_alloc | apply pw_below_drewN | apply below_drew1) | exact HB.out)) hb); have n1_ := Aside0.mk (hbox); have n2_ := Aside0.mk ((by rw [hg]; exact (below_size (by repeat (first | (with_reducible first | exact HB.out | apply below_alloc | apply pw_below_drewN | apply below_drew1) | exact HB.out))) : w.heap.size ≤ gb114)); have n3_ := Aside0.mk ((by rw [hg]; exact (below_size (by repeat (first | (with_reducible first | exact HB.out | apply below_alloc | apply pw_below_drewN | apply below_drew1) | exact HB.out))) : w.heap.size ≤ gb114)); clear HB; have HB := n0_; have BK114 := n1_; have GW114 := n2_; have GE114 := n3_; clear n0_ n1_ n2_ n3_; clear hb hbox hg; have hcz6_0 : w5.cell? ⟨gb114, 0, none⟩ = some (.int .u8 0) := (blk_cell BK114.out 0).trans rfl; have hcz6_1 : w5.cell? ⟨gb114, 1, none⟩ = some (.int .i8 0) := (blk_cell BK114.out 1).trans rfl; have hcz6_2 : w5.cell? ⟨gb114, 2, none⟩ = some (.int .i8 0) := (blk_cell BK114.out 2).trans rfl; have hcz6_3 : w5.cell? ⟨gb114, 3, none⟩ = some (.string (⟨#[]⟩ : ByteArray)) := (blk_cell BK114.out 3).trans rfl; have hcz6_4 : w5.cell? ⟨gb114, 4, none⟩ = some (.slice none 0 0) := (blk_cell BK114.out 4).trans rfl; have hfz6_0 := blk_frozen BK114.out 0; have hfz6_1 := blk_frozen BK114.out 1; have hfz6_2 := blk_frozen BK114.out 2; have hfz6_3 := blk_frozen BK114.out 3; have hfz6_4 := blk_frozen BK114.out 4))
      go_roundg k1
      case measure => have := HK1.out; omega
      case rel => exact ⟨(wrap64 (x3_1 + (wrap64 ((wrap64 (1 + (((rd_T62 l0 x8_1).f3).size : Int))) + (((rd_T62 l0 x8_1).f4).length : Int))))), (wrap64 (x8_1 + 1)), (by first | rfl | (simp; done) | (simp [*]; done)), (by first | rfl | (simp; done) | (simp [*]; done)), H', ⟨by have := HK1.out; omega⟩, ⟨by repeat (first | (with_reducible first | exact HB.out | apply below_alloc | apply pw_below_drewN | apply below_drew1 | refine below_set ?_ GE114.out) | exact HB.out)⟩⟩
     ·rw [if_neg c4] at H
      exact absurd H (by simp)
    ·rw [if_neg c3] at H
     exact absurd H (by simp)
   ·rw [if_neg c2] at H
    have c2b0 : decide (x8_1 < (l0.length : Int)) = false := decide_eq_false c2
    clear c2
    obtain rfl := Option.some.inj H
    go_wp2
    go_ret
    exact ⟨by first | rfl | (simp [errW_none, errW_some] <;> rfl) | (simp [*, errW_none, errW_some] <;> rfl), by repeat (first | (with_reducible first | exact HB.out | apply below_alloc | apply pw_below_drewN | apply below_drew1) | exact HB.out)⟩
end Go.Proofs.Ytckfkbmefdmedaa.Q
namespace Go.Proofs.Ytckfkbmefdmedaa.Q
open Go.RowKit Go.Proofs.YtckfkbmefdmedaaW.PrintWords Go.Proofs.YtckfkbmefdmedaaW.PrintLast Go.Proofs.YtckfkbmefdmedaaW.PrintMore
attribute [local go_sem] max2_int min2_int max_two min_two max_three min_three max_four min_four   -- for this text's walks alone
set_option linter.unusedVariables false
set_option linter.unusedSimpArgs false
def slices_Equal_string_string.l0 : Nat → List ByteArray → List ByteArray → Int → Int → Option (Bool)
 | 0, _, _, _, _ => none
 | k + 1, x0, x1, x12, x13 => if x13 < x12 then (if 0 ≤ x13 then (if x13 < (x0.length : Int) then (if x13 < (x1.length : Int) then (if (rdOf ByteArray.empty x0 x13).toList = (rdOf ByteArray.empty x1 x13).toList then (slices_Equal_string_string.l0 k x0 x1 x12 (wrap64 (x13 + 1))) else (some false)) else (none)) else (none)) else (none)) else (some true)
def slices_Equal_string_string.f (k : Nat) (l0 : List ByteArray) (l1 : List ByteArray) : Option (Bool) := if (l0.length : Int) = (l1.length : Int) then (slices_Equal_string_string.l0 k l0 l1 (l0.length : Int) 0) else (some false)
set_option maxHeartbeats 8000000 in
set_option maxRecDepth 100000 in
theorem slices_Equal_string_string.calls (k : Nat) (A0 : Option Addr) (c0 : Nat) (l0 : List ByteArray) (A1 : Option Addr) (c1 : Nat) (l1 : List ByteArray) (r : Bool) (w : World) (hr0 : Kd.C Kd.string w A0 l0.length l0) (hc0 : l0.length ≤ c0) (hr1 : Kd.C Kd.string w A1 l1.length l1) (hc1 : l1.length ≤ c1) (h : slices_Equal_string_string.f k l0 l1 = some r) :
  Calls Try.prog 21 #[.slice A0 l0.length c0, .slice A1 l1.length c1] w fun e w' => e = .returned (.bool r) ∧ Drawn0 w w' := by
 have HR0 := Aside0.mk hr0
 have HC0 := Aside0.mk hc0
 clear hr0 hc0
 have HR1 := Aside0.mk hr1
 have HC1 := Aside0.mk hc1
 clear hr1 hc1
 have H : (if (l0.length : Int) = (l1.length : Int) then (slices_Equal_string_string.l0 k l0 l1 (l0.length : Int) 0) else (some false)) = some r := h
 clear h
 by_cases c3 : (l0.length : Int) = (l1.length : Int)
 ·rw [if_pos c3] at H
  have c3b0 : ((l0.length : Int) == (l1.length : Int)) = true := beq_iff_eq.mpr c3
  have c3b1 : ((l0.length : Int) != (l1.length : Int)) = false := bne_eq_false_iff_eq.mpr c3
  have c3b2 : (l0.length == l1.length) = true := by first | simpa using c3 | (simp at c3 ⊢; omega)
  clear c3
  have H' := Aside0.mk H
  clear H
  go_enter Try.func21, Try.ntmps21
  go_wp2
  repeat (go_quiet (fail); try go_wp2)
  go_loopg [13] k (fun kq v13 w' => ∃ (x13_1 : Int), v13 = .int .i64 x13_1 ∧ Aside0 (slices_Equal_string_string.l0 kq l0 l1 (l0.length : Int) x13_1 = some r) ∧ Aside0 (kq ≤ k) ∧ Drawn0 w w')
  case atStart => exact ⟨(0), (by first | rfl | (simp; done) | (simp [*]; done)), H', ⟨Nat.le_refl _⟩, by repeat (first | exact Drawn0.refl _ | apply Drawn0.step)⟩
  case round =>
   clear H'
   try clear c1
   try clear c2
   try clear p2
   try clear c3
   try clear c3b0
   try clear c3b1
   try clear c3b2
   obtain ⟨x13_1, rfl, HA, HK1, ⟨m1, rfl⟩⟩ := hrel
   cases gk with
   | zero => exact absurd HA.out (by simp [slices_Equal_string_string.l0])
   | succ k1 =>
    have H := HA.out
    clear HA
    simp only [slices_Equal_string_string.l0] at H
    by_cases c4 : x13_1 < (l0.length : Int)
    ·rw [if_pos c4] at H
     have c4b0 : decide (x13_1 < (l0.length : Int)) = true := decide_eq_true c4
     clear c4
     by_cases c5 : 0 ≤ x13_1
     ·rw [if_pos c5] at H
      have c5b0 : decide (0 ≤ x13_1) = true := decide_eq_true c5
      clear c5
      by_cases c6 : x13_1 < (l0.length : Int)
      ·rw [if_pos c6] at H
       have c6b0 : decide (x13_1 < (l0.length : Int)) = true := decide_eq_true c6
       clear c6
       by_cases c7 : x13_1 < (l1.length : Int)
       ·rw [if_pos c7] at H
        have c7b0 : decide (x13_1 < (l1.length : Int)) = true := decide_eq_true c7
        clear c7
        by_cases c8 : (rdOf ByteArray.empty l0 x13_1).toList = (rdOf ByteArray.empty l1 x13_1).toList
        ·rw [if_pos c8] at H
         have c8b0 : ((rdOf ByteArray.empty l0 x13_1).toList == (rdOf ByteArray.empty l1 x13_1).toList) = true := beq_iff_eq.mpr c8
         have c8b1 : ((rdOf ByteArray.empty l0 x13_1).toList != (rdOf ByteArray.empty l1 x13_1).toList) = false := bne_eq_false_iff_eq.mpr c8
         clear c8
         have H' := Aside0.mk H
         clear H
         have p155 : 0 ≤ (x13_1 : Int) := of_decide_eq_true (by first | (with_reducible assumption) | assumption)
         have q155 : x13_1 < (l0.length : Int) := of_decide_eq_true (by first | (with_reducible assumption) | assumption)
         obtain ⟨ad155, e155, hx155_0⟩ := Kd.at_string HR0.out x13_1 p155 q155
         cases e155
         replace p155 := eq_true p155
         replace q155 := eq_true q155
         have p156 : 0 ≤ (x13_1 : Int) := of_decide_eq_true (by first | (with_reducible assumption) | assumption)
         have q156 : x13_1 < (l1.length : Int) := of_decide_eq_true (by first | (with_reducible assumption) | assumption)
         obtain ⟨ad156, e156, hx156_0⟩ := Kd.at_string HR1.out x13_1 p156 q156
         cases e156
         replace p156 := eq_true p156
         replace q156 := eq_true q156
         go_wp2
         repeat (go_quiet (fail); try go_wp2)
         go_roundg k1
         case measure => have := HK1.out; omega
         case rel => exact ⟨(wrap64 (x13_1 + 1)), (by first | rfl | (simp; done) | (simp [*]; done)), H', ⟨by have := HK1.out; omega⟩, by repeat (first | exact Drawn0.refl _ | apply Drawn0.step)⟩
        ·rw [if_neg c8] at H
         have c8b0 : ((rdOf ByteArray.empty l0 x13_1).toList == (rdOf ByteArray.empty l1 x13_1).toList) = false := beq_eq_false_iff_ne.mpr c8
         have c8b1 : ((rdOf ByteArray.empty l0 x13_1).toList != (rdOf ByteArray.empty l1 x13_1).toList) = true := bne_iff_ne.mpr c8
         obtain rfl := Option.some.inj H
         have p155 : 0 ≤ (x13_1 : Int) := of_decide_eq_true (by first | (with_reducible assumption) | assumption)
         have q155 : x13_1 < (l0.length : Int) := of_decide_eq_true (by first | (with_reducible assumption) | assumption)
         obtain ⟨ad155, e155, hx155_0⟩ := Kd.at_string HR0.out x13_1 p155 q155
         cases e155
         replace p155 := eq_true p155
         replace q155 := eq_true q155
         have p156 : 0 ≤ (x13_1 : Int) := of_decide_eq_true (by first | (with_reducible assumption) | assumption)
         have q156 : x13_1 < (l1.length : Int) := of_decide_eq_true (by first | (with_reducible assumption) | assumption)
         obtain ⟨ad156, e156, hx156_0⟩ := Kd.at_string HR1.out x13_1 p156 q156
         cases e156
         replace p156 := eq_true p156
         replace q156 := eq_true q156
         go_wp2
         repeat (go_quiet (fail); try go_wp2)
         go_ret
         exact ⟨by first | rfl | (simp; done) | (simp [*]; done), by repeat (first | exact Drawn0.refl _ | apply Drawn0.step)⟩
       ·rw [if_neg c7] at H
        exact absurd H (by simp)
      ·rw [if_neg c6] at H
       exact absurd H (by simp)
     ·rw [if_neg c5] at H
      exact absurd H (by simp)
    ·rw [if_neg c4] at H
     have c4b0 : decide (x13_1 < (l0.length : Int)) = false := decide_eq_false c4
     clear c4
     obtain rfl := Option.some.inj H
     go_wp2
     repeat (go_quiet (fail); try go_wp2)
     go_ret
     exact ⟨by first | rfl | (simp; done) | (simp [*]; done), by repeat (first | exact Drawn0.refl _ | apply Drawn0.step)⟩
 ·rw [if_neg c3] at H
  have c3b0 : ((l0.length : Int) == (l1.length : Int)) = false := beq_eq_false_iff_ne.mpr c3
  have c3b1 : ((l0.length : Int) != (l1.length : Int)) = true := bne_iff_ne.mpr c3
  have c3b2 : (l0.length == l1.length) = false := by first | simpa using c3 | (simp at c3 ⊢; omega)
  obtain rfl := Option.some.inj H
  go_enter Try.func21, Try.ntmps21
  go_wp2
  repeat (go_quiet (fail); try go_wp2)
  go_ret
  exact ⟨by first | rfl | (simp; done) | (simp [*]; done), by repeat (first | exact Drawn0.refl _ | apply Drawn0.step)⟩
end Go.Proofs.Ytckfkbmefdmedaa.Q
namespace Go.Proofs.Ytckfkbmefdmedaa
open Go.RowKit Go.Proofs.Kq Go.Proofs.Ytckfkbmefdmedaa.Q
open Go.Proofs.YtckfkbmefdmedaaW.PrintWords (pw_cell_below Kd Kd.C Kd.C_below Kd.R_of_own Kd.R_reads encs)
set_option linter.unusedVariables false
set_option linter.unusedSimpArgs false
theorem small35_loop (l : List S62) (hl : l.length ≤ 5000000000000) : ∀ (r i : Nat) (x : Int), i + r = l.length → ∃ b, EvT (fun k => souklaw05_small.l0 k x l (l.length : Int) (i : Int)) b
  | 0, i, x, hi => ⟨_, EvT.done (fun k => by rw [souklaw05_small.l0, if_neg (by omega)])⟩
  | r + 1, i, x, hi => by
    obtain ⟨b, hb⟩ := small35_loop l hl r (i + 1) (wrap64 (x + (wrap64 ((wrap64 (1 + (((rd_T62 l (i : Int)).f3).size : Int))) + (((rd_T62 l (i : Int)).f4).length : Int))))) (by omega)
    refine ⟨b, EvT.step (fun k => ?_) hb⟩
    have e : wrap64 ((i : Int) + 1) = ((i + 1 : Nat) : Int) := by unfold wrap64; omega
    rw [souklaw05_small.l0, if_pos (by omega), if_pos (by omega), if_pos (by omega), e]
theorem small35_ok (l : List S62) (hl : l.length ≤ 5000000000000) : ∃ b K, souklaw05_small.f K l = some b := by
  obtain ⟨b, hb⟩ := small35_loop l hl l.length 0 0 (by omega)
  obtain ⟨K, hK⟩ := EvT.one hb
  exact ⟨b, K, hK⟩
theorem eqd_loop (a : List ByteArray) (hl : a.length ≤ 1000000) : ∀ r i : Nat, i + r = a.length → EvT (fun k => slices_Equal_string_string.l0 k a a a.length i) true
  | 0, i, hi => by
    refine EvT.done (fun k => ?_)
    rw [slices_Equal_string_string.l0, if_neg (by omega)]
  | r + 1, i, hi => by
    refine EvT.step (fun k => ?_) (eqd_loop a hl r (i + 1) (by omega))
    rw [slices_Equal_string_string.l0, if_pos (by omega), if_pos (by omega), if_pos (by omega), if_pos (by omega), if_pos rfl, nx i (by omega)]
theorem eqd_ok (a : List ByteArray) (hl : a.length ≤ 1000000) : ∃ K, slices_Equal_string_string.f K a a = some true := by
  refine EvT.one (f := fun k => slices_Equal_string_string.f k a a) (EvT.congr (fun k => ?_) (eqd_loop a hl a.length 0 (by omega)))
  unfold slices_Equal_string_string.f; rw [if_pos rfl]; rfl
theorem strs_reads {w : World} {base : Nat} {v : Value} {xs : List ByteArray} (h : Strs w base v xs) : ∃ A c, v = .slice A xs.length c ∧ xs.length ≤ c ∧ Kd.C Kd.string w A xs.length xs := by
  have h2 : w.ownsRow base 9 1 v xs.length (encs Value.string xs) := by rw [← strs_encs]; exact h
  exact Kd.R_reads (Kd.R_of_own (enc := Value.string) (h1 := fun _ => rfl) (ok := fun _ => True) h2 (fun _ _ => trivial))
def EqP (w : World) (e : Ending) (w' : World) : Prop := e = .returned (.bool true) ∧ ∃ n, w' = w.drewN n
theorem equal_same (b1 b2 : Nat) (v1 v2 : Value) (xs : List ByteArray) (w : World) (h1 : Strs w b1 v1 xs) (h2 : Strs w b2 v2 xs) (hl : xs.length ≤ 1000000) : Calls Try.prog 21 #[v1, v2] w (EqP w) := by
  obtain ⟨A1, c1, rfl, l1, C1⟩ := strs_reads h1
  obtain ⟨A2, c2, rfl, l2, C2⟩ := strs_reads h2
  obtain ⟨K, hK⟩ := eqd_ok xs hl
  refine (slices_Equal_string_string.calls K A1 c1 xs A2 c2 xs true w C1 l1 C2 l2 hK).mono ?_
  rintro e w9 ⟨rfl, hd⟩
  obtain ⟨m, rfl⟩ := hd
  exact ⟨rfl, m, rfl⟩
theorem Dt.lower {w : World} {base base' d : Nat} {v1 v2 : Value} {bs : List ByteArray} {ps : List Wr} {fuse : Int} {dead : Bool} (h : Dt w base d v1 v2 bs ps fuse dead) (hb : base' ≤ base) : Dt w base' d v1 v2 bs ps fuse dead :=
  ⟨h.blk, h.own.lower hb, h.pend.lower hb⟩
theorem Et.lower {w : World} {base base' d : Nat} {v1 v2 : Value} {bs : List ByteArray} {ps : List Wr} {fuse : Int} {dead : Bool} (h : Et w base d v1 v2 bs ps fuse dead) (hb : base' ≤ base) : Et w base' d v1 v2 bs ps fuse dead :=
  ⟨h.blk, h.own.lower hb, h.pend.lower hb⟩
theorem ES_lt {w : World} {base d : Nat} {v1 v2 : Value} {s : DkS} (h : ET w base d v1 v2 s) {k : Nat} (hk : ES d v1 v2 k) : k < w.heap.size := by
  rcases hk with rfl | hk | hk
  · exact h.blk.lt
  · exact h.own.lt hk
  · exact h.pend.lt hk
theorem ES_ge {w : World} {base d : Nat} {v1 v2 : Value} {s : DkS} (h : ET w base d v1 v2 s) (hd : base ≤ d) {k : Nat} (hk : ES d v1 v2 k) : base ≤ k := by
  rcases hk with rfl | hk | hk
  · exact hd
  · exact h.own.ge hk
  · exact h.pend.ge hk
structure AJ (w wr : World) (d g : Nat) (v1 v2 u1 u2 : Value) (s t : DkS) : Prop where
  D : DT wr w.heap.size d v1 v2 s
  E : ET wr w.heap.size g u1 u2 t
  bel : Below w.heap.size w wr
  apart : ∀ q, DS d v1 v2 q → ¬ ES g u1 u2 q
  hd : w.heap.size ≤ d
  hg : w.heap.size ≤ g
section
variable {w wr : World} {d g : Nat} {v1 v2 u1 u2 : Value} {s t : DkS}
theorem AJ.below {w1 : World} (h : AJ w wr d g v1 v2 u1 u2 s t) (hb : Below wr.heap.size wr w1) : AJ w w1 d g v1 v2 u1 u2 s t :=
  ⟨h.D.below hb, h.E.below hb, below_step h.bel hb, h.apart, h.hd, h.hg⟩
theorem AJ.drew (h : AJ w wr d g v1 v2 u1 u2 s t) : AJ w wr.drew d g v1 v2 u1 u2 s t := h.below (Below.refl _ _).drew
theorem AJ.drewN (h : AJ w wr d g v1 v2 u1 u2 s t) (n : Nat) : AJ w (wr.drewN n) d g v1 v2 u1 u2 s t := h.below (below_drewN (Below.refl _ _) n)
theorem AJ.far {x T : Nat} {cs : Array Value} (h : AJ w wr d g v1 v2 u1 u2 s t) (hB : Blk wr x cs T) (h1 : T ≠ 132) (h2 : T ≠ 9) (h3 : T ≠ 135) (h4 : T ≠ 65) (h5 : T ≠ 140) : ¬ DS d v1 v2 x ∧ ¬ ES g u1 u2 x := by
  constructor
  · rintro (rfl | hk | hk)
    · have a := h.D.blk; unfold Blk at a hB; rw [a] at hB; cases hB; exact h1 rfl
    · exact h.D.own.ne hB (Ne.symm h2) hk
    · exact h.D.pend.ne hB (Ne.symm h3) hk
  · rintro (rfl | hk | hk)
    · have a := h.E.blk; unfold Blk at a hB; rw [a] at hB; cases hB; exact h4 rfl
    · exact h.E.own.ne hB (Ne.symm h2) hk
    · exact h.E.pend.ne hB (Ne.symm h5) hk
theorem AJ.mu {s' : DkS} {r e : Ending} {w' : World} (h : AJ w wr d g v1 v2 u1 u2 s t) (hM : MuP w.heap.size d v1 v2 r s' wr e w') :
    e = r ∧ ∃ v2', AJ w w' d g v1 v2' u1 u2 s' t ∧ ∀ x cs, Blk wr x cs 62 → Blk w' x cs 62 := by
  obtain ⟨rfl, v2', hD, hF, hP⟩ := hM
  refine ⟨rfl, v2', ⟨hD, h.E.fr hF (fun q hq hn => h.apart q hn hq), h.bel.trans (Fr.toB hF (fun q hq => DS_ge h.D h.hd hq) h.bel.size), fun q hq hn => ?_, h.hd, h.hg⟩, fun x cs hB => hF.blk hB (h.far hB (by decide) (by decide) (by decide) (by decide) (by decide)).1⟩
  rcases hP q hq with h1 | h1
  · exact h.apart q h1 hn
  · have := ES_lt h.E hn; omega
theorem AJ.ru {t' : DkS} {r e : Ending} {w' : World} (h : AJ w wr d g v1 v2 u1 u2 s t) (hM : RuP w.heap.size g u1 u2 r t' wr e w') :
    e = r ∧ ∃ u2', AJ w w' d g v1 v2 u1 u2' s t' ∧ ∀ x cs, Blk wr x cs 62 → Blk w' x cs 62 := by
  obtain ⟨rfl, u2', hE, hF, hP⟩ := hM
  refine ⟨rfl, u2', ⟨h.D.fr hF (fun q hq hn => h.apart q hq hn), hE, h.bel.trans (Fr.toB hF (fun q hq => ES_ge h.E h.hg hq) h.bel.size), fun q hq hn => ?_, h.hd, h.hg⟩, fun x cs hB => hF.blk hB (h.far hB (by decide) (by decide) (by decide) (by decide) (by decide)).2⟩
  rcases hP q hn with h1 | h1
  · exact h.apart q hq h1
  · have := DS_lt h.D hq; omega
theorem AJ.start {w1 w2 w3 : World} {n : Nat} (h1 : Below w.heap.size w w1) (hD : DT w2 w1.heap.size d v1 (.slice none 0 0) ⟨List.replicate n e64, [], -1, false⟩) (hd : w1.heap.size ≤ d) (hb : Below w1.heap.size w1 w2) (hE : ET w3 w2.heap.size g u1 (.slice none 0 0) ⟨List.replicate n e64, [], -1, false⟩) (hg : w2.heap.size ≤ g) (hb2 : Below w2.heap.size w2 w3) :
    AJ w w3 d g v1 (.slice none 0 0) u1 (.slice none 0 0) ⟨List.replicate n e64, [], -1, false⟩ ⟨List.replicate n e64, [], -1, false⟩ := by
  refine ⟨(hD.lower h1.size).below hb2, hE.lower (Nat.le_trans h1.size hb.size), below_step (below_step h1 hb) hb2, fun q hq hn => ?_, Nat.le_trans h1.size hd, Nat.le_trans (Nat.le_trans h1.size hb.size) hg⟩
  have a := DS_lt hD hq
  have b := ES_ge hE hg hn
  omega
end
end Go.Proofs.Ytckfkbmefdmedaa
