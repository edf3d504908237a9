/- Rows of plain structs (every field one cell, no slice inside): read, and made. -/
import Derived.Test.YtncnhhnbjmpomaaK
import Derived.Test.YtncnhhnbjmpomaaRk
import Derived.Test.YtncnhhnbjmpomaaWWords
import Derived.Test.YtncnhhnbjmpomaaWLast
import Derived.Test.YtncnhhnbjmpomaaWMore
namespace Go.Proofs.Kp
open Go.RowKit Go.Proofs.YtncnhhnbjmpomaaW.PrintWords
set_option linter.unusedSimpArgs false
set_option linter.unusedVariables false

def plain {α : Type} (sz : Nat) (l : α → List Value) (hl : ∀ x, (l x).length = sz) (h1 : ∀ x, ∀ u ∈ l x, u.oneCell' = true) : Kd α where
  sz := sz
  E := []
  K := fun _ x cs => cs = l x
  M := fun _ _ _ x cs => cs = l x
  K_len := fun h => by rw [h]; exact hl _
  K_one := fun h u hu => by rw [h] at hu; exact h1 _ u hu
  K_below := fun _ h => h
  K_of_M := fun h => h
  M_mono := fun _ h => h
  M_bound := fun h => h
  M_move := fun _ h => h
  M_lower := fun _ h => h

section
variable {α : Type} {sz : Nat} {l : α → List Value} {hl : ∀ x, (l x).length = sz} {h1 : ∀ x, ∀ u ∈ l x, u.oneCell' = true}

theorem addr_eta {p : Addr} (h : p.spot = none) : p = ⟨p.block, p.off, none⟩ := by cases p; simp at h; subst h; rfl
theorem add_plain' (b o k : Nat) : (⟨b, o, none⟩ : Addr).add k = ⟨b, o + k, none⟩ := by unfold Addr.add; split <;> simp_all

/-- Block b is known whole. -/
def Blk' (w : World) (b : Nat) (cs : Array Value) (T : TypeId) : Prop := w.heap[b]? = some (.cells cs T (0, 0))

/-- What is read of an argument is a row. -/
theorem C_of_rd {w : World} {ok : α → Prop} {ad : Option Addr} {xs : List α} {cap : Nat} (hs : 0 < sz) (h : Rk.RdSl w l ok sz ad xs cap) : Kd.C (plain sz l hl h1) w ad xs.length xs := by
  rcases h with ⟨rfl, rfl, rfl⟩ | ⟨p, rfl, hlc, hcm, hok, hsp, hc⟩
  · exact ⟨rfl, by simp, fun h => absurd h (by simp)⟩
  · refine ⟨rfl, by have : cap ≤ 9223372036854775807 := hcm; omega, fun hn => ⟨p, rfl, fun j q hj => ⟨l q, hl q, rfl, fun i u hu => ?_⟩⟩⟩
    obtain ⟨hjl, hq⟩ := List.getElem?_eq_some_iff.1 hj
    subst hq
    rw [addr_eta (hsp hn hs), add_plain']
    exact hc j hjl i u hu
theorem cap_of_rd {w : World} {ok : α → Prop} {ad : Option Addr} {xs : List α} {cap : Nat} (h : Rk.RdSl w l ok sz ad xs cap) : xs.length ≤ cap := by
  rcases h with ⟨rfl, rfl, rfl⟩ | ⟨p, rfl, hlc, _⟩
  · simp
  · exact hlc
theorem ok_of_rd {w : World} {ok : α → Prop} {ad : Option Addr} {xs : List α} {cap : Nat} (h : Rk.RdSl w l ok sz ad xs cap) : ∀ a ∈ xs, ok a := by
  rcases h with ⟨rfl, rfl, rfl⟩ | ⟨p, rfl, _, _, hok, _⟩
  · simp
  · exact hok

/-- A row that is read, with an element in it. -/
theorem C_open {w : World} {A : Option Addr} {n : Nat} {xs : List α} (h : Kd.C (plain sz l hl h1) w A n xs) (hn : 0 < n) (hs : 0 < sz) :
    ∃ b off, A = some ⟨b, off, none⟩ ∧ ∀ (i : Nat) (hi : i < xs.length) (j : Nat) (v : Value), (l xs[i])[j]? = some v → w.cell? ⟨b, off + i * sz + j, none⟩ = some v := by
  obtain ⟨ad, rfl, hc⟩ := h.2.2 hn
  have hxn : 0 < xs.length := by rw [h.1]; exact hn
  have hsp : ad.spot = none := by
    obtain ⟨c, hcl, hcK, hcc⟩ := hc 0 xs[0] (List.getElem?_eq_getElem hxn)
    have := hcc 0 (c[0]'(by rw [hcl]; exact hs)) (List.getElem?_eq_getElem _)
    simpa [Addr.add] using Rk.spot_none this
  refine ⟨ad.block, ad.off, by rw [← addr_eta hsp], fun i hi j v hj => ?_⟩
  obtain ⟨c, hcl, hcK, hcc⟩ := hc i xs[i] (List.getElem?_eq_getElem hi)
  have e : c = l xs[i] := hcK
  subst e
  have := hcc j v hj
  rw [addr_eta hsp, add_plain'] at this
  rw [Nat.add_assoc]
  exact this

theorem flat_get (hl : ∀ x, (l x).length = sz) {i : Nat} {u : Value} {q : α} (hu : (l q)[i]? = some u) : ∀ (xs : List α) (j : Nat), xs[j]? = some q → (xs.flatMap l)[j * sz + i]? = some u
  | [], j, hj => by simp at hj
  | x :: xs, 0, hj => by
    simp only [List.getElem?_cons_zero, Option.some.injEq] at hj
    subst hj
    have hi : i < (l x).length := (List.getElem?_eq_some_iff.1 hu).1
    simp only [List.flatMap_cons, Nat.zero_mul, Nat.zero_add]
    rw [List.getElem?_append_left hi]
    exact hu
  | x :: xs, j + 1, hj => by
    simp only [List.getElem?_cons_succ] at hj
    have := flat_get hl hu xs j hj
    simp only [List.flatMap_cons]
    rw [List.getElem?_append_right (by rw [hl, Nat.succ_mul]; omega), hl]
    have e : (j + 1) * sz + i - sz = j * sz + i := by rw [Nat.succ_mul]; omega
    rw [e]
    exact this
/-- A block of the call's own that is a row. -/
theorem C_blk {w : World} {b : Nat} {cs : Array Value} {T : TypeId} {xs : List α} (h : Blk' w b cs T) (hc : cs.toList = xs.flatMap l) (hn : xs.length ≤ 9223372036854775807) : Kd.C (plain sz l hl h1) w (some ⟨b, 0, none⟩) xs.length xs := by
  refine ⟨rfl, hn, fun _ => ⟨_, rfl, fun j q hj => ⟨l q, hl q, rfl, fun i u hu => ?_⟩⟩⟩
  rw [add_plain', Nat.zero_add]
  have hcell : w.cell? ⟨b, j * sz + i, none⟩ = cs[j * sz + i]? := by unfold Blk' at h; simp [World.cell?, h]
  show w.cell? ⟨b, j * sz + i, none⟩ = some u
  rw [hcell, ← Array.getElem?_toList, hc]
  exact flat_get hl hu xs j hj
end
end Go.Proofs.Kp
