/- Reading a law's arguments: from 'can be read as data' to the cells' values, type by type. General; no program in sight. -/
import Derived.WalkKit
import Derived.ProofKit
import Derived.OpenShut
import Derived.ShutString
import Derived.ChangeOld
import Derived.Below
import Derived.SizedLaws
namespace Go.Proofs.Rk
open Go.ChangeShapes Go.WideShapes Go.ChangeAt Go.RowKit
set_option linter.unusedSimpArgs false

section
variable {H : Type} {enc : TypeId × Value → H} {P : Program} {w : World} {base : Nat} {spare : Nat → Bool} {held : Bool}

theorem okWide_array {t e : TypeId} {n : Nat} {r : Reach} {b0 : Nat} {v : Value} (ht : P.underlying t = some (.array n e)) (h : Value.okWide P w r b0 t v) : ∃ cs, v = .agg cs ∧ cs.size = P.cellsOf t := by
  simp only [Value.okWide, ht, Cell.okWide] at h
  cases v <;> simp_all [Cell.ok, Value.cells]

theorem fld {fs : Array Field} {n : Nat} {cs : List Value} {xs : List (DataW H × List MemPlace)}
    (hg : ∀ (i : Nat) (f : Field), fs[i]? = some f → DataW.trod enc P w base spare held n f.type ((cs.drop f.offset).take (P.cellsOf f.type)) = xs[i]?) (hxl : xs.length = fs.size)
    (i : Nat) (f : Field) (hf : fs[i]? = some f) (t off k : Nat) (ht : f.type = t) (ho : f.offset = off) (hk : P.cellsOf t = k) : ∃ x, DataW.trod enc P w base spare held n t ((cs.drop off).take k) = some x := by
  have h := hg i f hf
  rw [ht, ho, hk] at h
  have hi : i < xs.length := by rw [hxl]; exact (Array.getElem?_eq_some_iff.1 hf).1
  exact ⟨_, h.trans (List.getElem?_eq_getElem hi)⟩
theorem elt {N : Nat} {e : TypeId} {n : Nat} {cs : List Value} {xs : List (DataW H × List MemPlace)}
    (hg : ∀ (i : Nat), i < N → DataW.trod enc P w base spare held n e ((cs.drop (i * P.cellsOf e)).take (P.cellsOf e)) = xs[i]?) (hxl : xs.length = N)
    (i off k : Nat) (ho : i * k = off) (hi : i < N) (hk : P.cellsOf e = k) : ∃ x, DataW.trod enc P w base spare held n e ((cs.drop off).take k) = some x := by
  have h := hg i hi
  rw [hk, ho] at h
  exact ⟨_, h.trans (List.getElem?_eq_getElem (by rw [hxl]; exact hi))⟩

/-- One kind of value: how it lies in cells, and what is known of it. -/
structure Kn (P : Program) (t : TypeId) (A : Type) where
  cells : A → List Value
  ok : A → Prop
  rd : ∀ {H : Type} {enc : TypeId × Value → H} {w : World} {base : Nat} {spare : Nat → Bool} {held : Bool} {fuel : Nat} {cs : List Value} {x : DataW H × List MemPlace},
    DataW.trod enc P w base spare held fuel t cs = some x → ∃ a, cs = cells a ∧ ok a

def Kn.int {P : Program} {t : TypeId} {k : IntKind} (h : P.underlying t = some (.int k)) : Kn P t Int where
  cells n := [.int k n]
  ok n := (Lit.int k n).wf = true
  rd h' := by obtain ⟨n, rfl, _, hw⟩ := DataW.trod_int h h'; exact ⟨n, rfl, hw⟩
def Kn.bool {P : Program} {t : TypeId} (h : P.underlying t = some .bool) : Kn P t Bool where
  cells b := [.bool b]
  ok _ := True
  rd h' := by obtain ⟨b, rfl, _⟩ := DataW.trod_bool h h'; exact ⟨b, rfl, trivial⟩
def Kn.str {P : Program} {t : TypeId} (h : P.underlying t = some .string) : Kn P t ByteArray where
  cells s := [.string s]
  ok s := s.size ≤ maxLen
  rd h' := by obtain ⟨s, rfl, _, hs⟩ := DataW.trod_string h h'; exact ⟨s, rfl, hs⟩

/-- A slice's elements, as they are read. -/
def RdSl (w : World) {A : Type} (cells : A → List Value) (ok : A → Prop) (C : Nat) (ad : Option Addr) (xs : List A) (cap : Nat) : Prop :=
  (ad = none ∧ xs = [] ∧ cap = 0) ∨ ∃ p : Addr, ad = some p ∧ xs.length ≤ cap ∧ cap ≤ maxLen ∧ (∀ a ∈ xs, ok a) ∧ (0 < xs.length → 0 < C → p.spot = none) ∧
    ∀ (i : Nat) (h : i < xs.length) (j : Nat) (v : Value), (cells xs[i])[j]? = some v → w.cell? ⟨p.block, p.off + (i * C + j), none⟩ = some v

theorem list_of {A : Type} {Q : Nat → A → Prop} : ∀ n, (∀ i, i < n → ∃ a, Q i a) → ∃ xs : List A, xs.length = n ∧ ∀ i (h : i < xs.length), Q i xs[i]
  | 0, _ => ⟨[], rfl, fun i h => absurd h (by simp)⟩
  | n + 1, h => by
    obtain ⟨xs, hl, hx⟩ := list_of n (fun i hi => h i (by omega))
    obtain ⟨a, ha⟩ := h n (by omega)
    refine ⟨xs ++ [a], by simp [hl], fun i hi => ?_⟩
    rw [List.getElem_append]
    split
    · exact hx i _
    · have : i = n := by simp at hi; omega
      subst this
      simpa using ha

theorem cell_spot {w : World} {p : Addr} {k : Nat} {v : Value} (h : w.cell? (p.add k) = some v) : w.cell? ⟨p.block, p.off + k, none⟩ = some v := by
  unfold Addr.add at h
  split at h
  · rename_i hk
    subst hk
    unfold World.cell? at h ⊢
    split at h
    · rename_i c _ _ hb
      split at h
      · cases h
      · simp only [hb]; simpa using h
    · cases h
  · exact h
theorem spot_none {w : World} {p : Addr} {v : Value} (h : w.cell? p = some v) : p.spot = none := by
  unfold World.cell? at h
  split at h
  · split at h
    · cases h
    · rename_i hs; cases hp : p.spot with
      | none => rfl
      | some x => simp [hp] at hs
  · cases h
theorem add_add (a : Addr) (i j : Nat) : (a.add i).add j = a.add (i + j) := by
  unfold Addr.add
  by_cases hi : i = 0
  · subst hi; simp
  · by_cases hj : j = 0
    · subst hj; simp [hi]
    · simp [hi, hj, Nat.add_assoc]

theorem Kn.slice {t e : TypeId} {A : Type} (K : Kn P e A) {C : Nat} (hC : P.cellsOf e = C) (ht : P.underlying t = some (.slice e)) {ad : Option Addr} {len cap : Nat} {d : DataW H} {ps : List MemPlace}
    (h : DataW.Trod enc P w base spare held t (.slice ad len cap) d ps) : ∃ xs : List A, len = xs.length ∧ RdSl w K.cells K.ok C ad xs cap := by
  obtain ⟨fuel, hf⟩ := h
  rcases DataW.trod_slice ht hf with ⟨hcs, _⟩ | ⟨a, l, c, elems, rest, n, _, hcs, _, hb, hlc, hcm, hel, hi, _⟩
  · simp [Value.cells] at hcs
    obtain ⟨rfl, rfl, rfl⟩ := hcs
    exact ⟨[], rfl, .inl ⟨rfl, rfl, rfl⟩⟩
  · simp [Value.cells] at hcs
    obtain ⟨rfl, rfl, rfl⟩ := hcs
    obtain ⟨xs, hxl, hxs⟩ := list_of (Q := fun i (x : A) => K.ok x ∧ ∀ (j : Nat) (v : Value), (K.cells x)[j]? = some v → w.cell? ⟨a.block, a.off + (i * C + j), none⟩ = some v) len (fun i hlt => by
      have h1 := hi i hlt
      rw [List.getElem?_eq_getElem (by omega)] at h1
      obtain ⟨cs, hcs, htr⟩ := Option.bind_eq_some_iff.1 h1
      obtain ⟨x, rfl, hok⟩ := K.rd htr
      obtain ⟨_, hl, hat⟩ := World.cells?_some hcs
      refine ⟨x, hok, fun j v hj => ?_⟩
      have hjl : j < P.cellsOf e := by
        rw [← hl]; exact (List.getElem?_eq_some_iff.1 hj).1
      have := hat j hjl
      rw [hj, hC] at this
      rw [add_add] at this
      exact cell_spot this)
    refine ⟨xs, hxl.symm, .inr ⟨a, rfl, by omega, hcm, fun x hx => ?_, fun hn hC0 => ?_, fun i hlt j v hj => (hxs i hlt).2 j v hj⟩⟩
    rotate_left
    · have h1 := hi 0 (by omega)
      rw [List.getElem?_eq_getElem (by omega)] at h1
      obtain ⟨cs, hcs, _⟩ := Option.bind_eq_some_iff.1 h1
      obtain ⟨_, hl, hat⟩ := World.cells?_some hcs
      have h2 := hat 0 (by omega)
      rw [List.getElem?_eq_getElem (by omega)] at h2
      have := spot_none h2
      simpa [Addr.add] using this
    obtain ⟨i, hlt, rfl⟩ := List.getElem_of_mem hx
    exact (hxs i hlt).1

/-- A slice is no longer than its weight allows. -/
theorem sized_any {t e : TypeId} {a : Option Addr} {len cap : Nat} {d : DataW H} {ps : List MemPlace} {ts : List TypeId} {ds : List (DataW H)} {j : Nat}
    (hsz : (DataW.weightsEach P ts ds).all (· ≤ reachBytes) = true) (ht : ts[j]? = some t) (hd : ds[j]? = some d) (hu : P.underlying t = some (.slice e)) {B : Nat} (hB : P.bytesOf e = B)
    (h : DataW.Trod enc P w base spare held t (.slice a len cap) d ps) : len * B ≤ 140737488351232 := by
  obtain ⟨fuel, hf⟩ := h
  rcases DataW.trod_slice hu hf with ⟨hcs, _⟩ | ⟨a, l, c, elems, rest, n, _, hcs, hx, hb, hlc, hcm, hel, hi, _⟩
  · simp [Value.cells] at hcs
    obtain ⟨rfl, rfl, rfl⟩ := hcs
    simp
  · simp [Value.cells] at hcs
    obtain ⟨rfl, rfl, rfl⟩ := hcs
    obtain ⟨hx, _⟩ := Prod.mk.inj hx
    subst hx
    have z := sized_slice hsz ht hd hu
    rw [hB] at z
    refine Nat.le_trans (Nat.mul_le_mul_right _ ?_) z
    simp [hel]
end
end Go.Proofs.Rk
