/- Maps with strings as keys: what the operations do, in plain lists. Over any program. -/
import Derived.WalkKit
import Derived.MapKept
import Derived.Carry
namespace Go.Proofs.Sm
open Go.RowKit Go.MapKept
set_option linter.unusedSimpArgs false
set_option linter.unusedVariables false

section
variable {P : Program}

theorem findNow_new {key : ByteArray} : ∀ (es : List MapEntry) (i : Nat), (∀ e ∈ es, ∃ s, e.key = .string s ∧ (key == s) = false) → Instr.findNow .string (.string key) es i = some none
  | [], _, _ => rfl
  | e :: es, i, h => by
    obtain ⟨s, hs, hne⟩ := h e (by simp)
    simp only [Instr.findNow, hs, Instr.sameNow, hne]
    exact findNow_new es (i + 1) (fun e he => h e (by simp [he]))

theorem run_ins {T K E : TypeId} (ht : P.underlying T = some (.map K E)) (hk : P.underlying K = some .string) (w : World) (es : Array MapEntry) (clock : Nat) (key : ByteArray) (val : Value)
    (h : Instr.findNow .string (.string key) es.toList 0 = some none) :
    (Instr.mapUpdate T (.map (some w.heap.size)) (.string key) val).run P (w.alloc (.map es clock)) = .ok () (w.alloc (.map (es.push ⟨.string key, val, clock⟩) (clock + 1))) := by
  have hb : (w.alloc (.map es clock)).heap[w.heap.size]? = some (.map es clock) := by show (w.heap.push _)[w.heap.size]? = _; simp
  simp [Instr.mapUpdate, run_underlying ht, MapKept.run_getObj_map hb, MapKept.run_checkKey hk (by trivial : IsKey .string (.string key)), MapKept.run_findKey hk h, MapKept.run_setObj_map _ hb, Result.andThen]
  show ({ (w.alloc (.map es clock)) with heap := _ } : World) = _
  simp only [World.alloc]
  congr 1
  apply Array.ext_getElem?
  intro i
  by_cases hi : i = w.heap.size
  · subst hi; simp
  · rw [Array.getElem?_setIfInBounds, if_neg (Ne.symm hi), Array.getElem?_push, Array.getElem?_push, if_neg hi, if_neg hi]

theorem run_look {T K E : TypeId} (ht : P.underlying T = some (.map K E)) (hk : P.underlying K = some .string) {w : World} {b : Nat} {es : Array MapEntry} {clock : Nat} (hb : w.heap[b]? = some (.map es clock)) (key : ByteArray)
    {r : Option (Nat × Value)} (h : Instr.findNow .string (.string key) es.toList 0 = some r) {z : Value} (hz : (zeroValue E).run P w = .ok z w) (ok : Bool) :
    (Instr.lookup T (.map (some b)) (.string key) ok).run P w = .ok (if ok then .tuple #[(r.map (·.2)).getD z, .bool r.isSome] else (r.map (·.2)).getD z) w := by
  cases r with
  | none => simp [Instr.lookup, run_underlying ht, MapKept.run_getObj_map hb, MapKept.run_checkKey hk (by trivial : IsKey .string (.string key)), MapKept.run_findKey hk h, hz, Result.andThen]
  | some q => simp [Instr.lookup, run_underlying ht, MapKept.run_getObj_map hb, MapKept.run_checkKey hk (by trivial : IsKey .string (.string key)), MapKept.run_findKey hk h, hz, Result.andThen]
end
end Go.Proofs.Sm
