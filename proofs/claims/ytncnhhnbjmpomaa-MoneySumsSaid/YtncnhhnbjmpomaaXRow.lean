/- A row of one's own, as the sort tells it, and back. -/
import Derived.Test.YtncnhhnbjmpomaaXSort
namespace Go.Proofs.Ytncnhhnbjmpomaa
open Go.RowKit Go.Sort Go.Proofs.Ytncnhhnbjmpomaa.Q Go.Proofs.Kq
set_option linter.unusedVariables false
set_option linter.unusedSimpArgs false
theorem flat98 (d : Array S98) (t : Nat) : (d.toList.flatMap e98)[t]? = (flatK e98 2 d)[t]? := by
  have hlen : (d.toList.flatMap e98).length = d.size * 2 := by rw [flat_len (l := e98) (sz := 2) (fun _ => rfl)]; simp
  by_cases ht : t < d.size * 2
  · have hi : t / 2 < d.size := by omega
    have h1 : (flatK e98 2 d)[t]? = some ((e98 d[t / 2]!)[t % 2]!) := by
      have := get_flatK e98 2 d t ht
      rw [getElem!_pos _ t (by rw [size_flatK]; exact ht)] at this
      rw [Array.getElem?_eq_getElem (by rw [size_flatK]; exact ht), this]
    have hq : d.toList[t / 2]? = some d[t / 2]! := by rw [Array.getElem?_toList, Array.getElem?_eq_getElem hi, getElem!_pos d _ hi]
    have hu : (e98 d[t / 2]!)[t % 2]? = some ((e98 d[t / 2]!)[t % 2]!) := by
      have : t % 2 < (e98 d[t / 2]!).length := by show t % 2 < 2; omega
      rw [List.getElem?_eq_getElem this, getElem!_pos (e98 d[t / 2]!) (t % 2) this]
    have := Kp.flat_get (l := e98) (sz := 2) (fun _ => rfl) hu d.toList (t / 2) hq
    rw [h1, ← this]
    congr 1; omega
  · rw [List.getElem?_eq_none (by omega), Array.getElem?_eq_none (by rw [size_flatK]; omega)]
theorem holds_of_own {w : World} {base g n cap : Nat} {d : Array S98} (h : Own e98 2 98 w base (.slice (some ⟨g, 0, none⟩) n cap) d.toList) : HoldsK e98 2 w g 0 d ∧ g < w.heap.size ∧ n = d.size ∧ d.size ≤ cap := by
  rcases h.2 with ⟨h2, _⟩ | ⟨g', cap', cur, e, hg, hh, hn, hm, hcs, hcur⟩
  · cases h2
  · injection e with e1 e2 e3
    injection e1 with e1
    injection e1 with e1 _ _
    subst e1 e2 e3
    refine ⟨fun j hj => ?_, (Array.getElem?_eq_some_iff.1 hh).1, by simp, by simpa using hn⟩
    rw [size_flatK] at hj
    have h1 : (d.toList.flatMap e98)[j]? = cur[j]? := by
      rw [← hcur, List.getElem?_take, if_pos (by simpa using hj), Array.getElem?_toList]
    rw [flat98, Array.getElem?_eq_getElem (by rw [size_flatK]; exact hj)] at h1
    constructor
    · show w.cell? ⟨g, 0 + j, none⟩ = _
      rw [Nat.zero_add]
      simp only [World.cell?, hh, Option.isSome_none, Bool.false_eq_true, if_false]
      rw [← h1, getElem!_pos _ j (by rw [size_flatK]; exact hj)]; rfl
    · simp [World.frozen?, hh]
theorem own_of_sorted {w : World} {base g n cap m : Nat} {d d' : Array S98} {os : Array Obj} (h : Own e98 2 98 w base (.slice (some ⟨g, 0, none⟩) n cap) d.toList) (hs : d'.size = d.size) :
    Own e98 2 98 (sortWorldK e98 2 w g 0 m d' os) base (.slice (some ⟨g, 0, none⟩) n cap) d'.toList := by
  rcases h.2 with ⟨h2, _⟩ | ⟨g', cap', cur, e, hg, hh, hn, hm, hcs, hcur⟩
  · cases h2
  · injection e with e1 e2 e3
    injection e1 with e1
    injection e1 with e1 _ _
    subst e1 e2 e3
    have hlt := (Array.getElem?_eq_some_iff.1 hh).1
    refine ⟨by rw [flat_len (l := e98) (sz := 2) (fun _ => rfl)], .inr ⟨g, cap, putCells id 0 (flatK e98 2 d') cur, by simp [hs], hg, ?_, by simpa [hs] using hn, hm, by simp [putCells, hcs], ?_⟩⟩
    · unfold sortWorldK putRowK putRow mapBlock grow Sort.ahead
      simp only []
      rw [Array.getElem?_append_left (by simpa using hlt), Array.getElem?_modify, if_pos rfl, hh]
      rfl
    · apply List.ext_getElem?
      intro j
      have hcl : d.size * 2 ≤ cur.size := by
        rw [hcs]; exact Nat.mul_le_mul_right 2 (by simpa using hn)
      rw [List.getElem?_take]
      split
      · rename_i hj
        have hj' : j < d'.size * 2 := by simpa using hj
        rw [flat98, Array.getElem?_toList, putCells, Array.getElem?_mapIdx]
        have hjc : j < cur.size := by omega
        rw [Array.getElem?_eq_getElem hjc, Array.getElem?_eq_getElem (by rw [size_flatK]; exact hj')]
        simp only [Option.map_some, Nat.zero_le, true_and, Nat.zero_add, size_flatK, Nat.sub_zero]
        rw [if_pos hj', getElem!_pos _ j (by rw [size_flatK]; exact hj')]; rfl
      · rename_i hj
        rw [List.getElem?_eq_none]
        rw [flat_len (l := e98) (sz := 2) (fun _ => rfl)]; simp at hj ⊢; omega
end Go.Proofs.Ytncnhhnbjmpomaa
