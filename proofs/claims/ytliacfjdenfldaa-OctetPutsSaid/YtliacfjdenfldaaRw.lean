/- Reading a law's arguments where a nested text's size is wanted too: as Rk, over the weights. -/
import Derived.Test.YtliacfjdenfldaaRd
namespace Go.Proofs.Rk
open Go.ChangeShapes Go.WideShapes Go.ChangeAt Go.RowKit
section
variable {H : Type} {enc : TypeId × Value → H} {P : Program} {w : World} {base : Nat} {spare : Nat → Bool} {held : Bool}
theorem weightsAll_mem {e : TypeId} : ∀ {l : List (DataW H)} {d : DataW H} {n : Nat}, d ∈ l → n ∈ d.weights P e → n ∈ DataW.weightsAll P e l
  | [], _, _, h, _ => by simp at h
  | x :: l, d, n, h, hn => by
    simp only [DataW.weightsAll, List.mem_append]
    rcases List.mem_cons.1 h with rfl | h
    · exact .inl hn
    · exact .inr (weightsAll_mem h hn)
theorem fldx {fs : Array Field} {n : Nat} {cs : List Value} {xs : List (DataW H × List MemPlace)}
    (hg : ∀ (i : Nat) (f : Field), fs[i]? = some f → DataW.trod enc P w base spare held n f.type ((cs.drop f.offset).take (P.cellsOf f.type)) = xs[i]?) (hxl : xs.length = fs.size)
    (i : Nat) (f : Field) (hf : fs[i]? = some f) (t off k : Nat) (ht : f.type = t) (ho : f.offset = off) (hk : P.cellsOf t = k) :
    ∃ x, xs[i]? = some x ∧ DataW.trod enc P w base spare held n t ((cs.drop off).take k) = some x ∧ ∀ m ∈ x.1.weights P t, m ∈ DataW.weightsEach P (fs.toList.map (·.type)) (xs.map (·.1)) := by
  have h := hg i f hf
  rw [ht, ho, hk] at h
  have hi : i < xs.length := by rw [hxl]; exact (Array.getElem?_eq_some_iff.1 hf).1
  refine ⟨_, List.getElem?_eq_getElem hi, h.trans (List.getElem?_eq_getElem hi), fun m hm => ?_⟩
  refine DataW.weights_mem_each (j := i) (t := t) (d := xs[i].1) ?_ ?_ m hm
  · rw [List.getElem?_map]
    have : fs.toList[i]? = some f := by rw [Array.getElem?_toList]; exact hf
    rw [this]; simp [ht]
  · rw [List.getElem?_map, List.getElem?_eq_getElem hi]; rfl
theorem slice_w {t e : TypeId} {A : Type} (cells : A → List Value) (ok : A → Prop)
    (rd : ∀ {fuel : Nat} {cs : List Value} {x : DataW H × List MemPlace}, DataW.trod enc P w base spare held fuel e cs = some x → (∀ n ∈ x.1.weights P e, n ≤ reachBytes) → ∃ a, cs = cells a ∧ ok a)
    {C : Nat} (hC : P.cellsOf e = C) (ht : P.underlying t = some (.slice e)) {ad : Option Addr} {len cap : Nat} {d : DataW H} {ps : List MemPlace}
    (h : DataW.Trod enc P w base spare held t (.slice ad len cap) d ps) (hw : ∀ n ∈ d.weights P t, n ≤ reachBytes) : ∃ xs : List A, len = xs.length ∧ RdSl w cells ok C ad xs cap := by
  obtain ⟨fuel, hf⟩ := h
  rcases DataW.trod_slice ht hf with ⟨hcs, _⟩ | ⟨a, l, c, elems, rest, n, _, hcs, hx, hb, hlc, hcm, hel, hi, _⟩
  · simp [Value.cells] at hcs
    obtain ⟨rfl, rfl, rfl⟩ := hcs
    exact ⟨[], rfl, .inl ⟨rfl, rfl, rfl⟩⟩
  · simp [Value.cells] at hcs
    obtain ⟨rfl, rfl, rfl⟩ := hcs
    obtain ⟨hx, _⟩ := Prod.mk.inj hx
    subst hx
    have hwe : ∀ (i : Nat) (h : i < elems.length), ∀ n ∈ (elems[i]).1.weights P e, n ≤ reachBytes := by
      intro i h n hn
      refine hw n ?_
      simp only [DataW.weights, ht, List.mem_cons, List.mem_append]
      exact .inr (.inl (weightsAll_mem (List.mem_map.2 ⟨_, List.getElem_mem h, rfl⟩) hn))
    obtain ⟨xs, hxl, hxs⟩ := list_of (Q := fun i (x : A) => ok x ∧ ∀ (j : Nat) (v : Value), (cells x)[j]? = some v → w.cell? ⟨a.block, a.off + (i * C + j), none⟩ = some v) len (fun i hlt => by
      have h1 := hi i hlt
      rw [List.getElem?_eq_getElem (by omega)] at h1
      obtain ⟨cs, hcs, htr⟩ := Option.bind_eq_some_iff.1 h1
      obtain ⟨x, rfl, hok⟩ := rd htr (hwe i (by omega))
      obtain ⟨_, hl, hat⟩ := World.cells?_some hcs
      refine ⟨x, hok, fun j v hj => ?_⟩
      have hjl : j < P.cellsOf e := by
        rw [← hl]; exact (List.getElem?_eq_some_iff.1 hj).1
      have := hat j hjl
      rw [hj, hC] at this
      rw [add_add] at this
      exact cell_spot this)
    refine ⟨xs, hxl.symm, .inr ⟨a, rfl, by omega, hcm, fun x hx => ?_, fun hn hC0 => ?_, fun i hlt j v hj => (hxs i hlt).2 j v hj⟩⟩
    rotate_left
    · have h1 := hi 0 (by omega)
      rw [List.getElem?_eq_getElem (by omega)] at h1
      obtain ⟨cs, hcs, _⟩ := Option.bind_eq_some_iff.1 h1
      obtain ⟨_, hl, hat⟩ := World.cells?_some hcs
      have h2 := hat 0 (by omega)
      rw [List.getElem?_eq_getElem (by omega)] at h2
      have := spot_none h2
      simpa [Addr.add] using this
    obtain ⟨i, hlt, rfl⟩ := List.getElem_of_mem hx
    exact (hxs i hlt).1
theorem str_w {t : TypeId} (hu : P.underlying t = some .string) {fuel : Nat} {cs : List Value} {x : DataW H × List MemPlace} (h : DataW.trod enc P w base spare held fuel t cs = some x) (hw : ∀ n ∈ x.1.weights P t, n ≤ reachBytes) :
    ∃ s : ByteArray, cs = [.string s] ∧ s.size ≤ 140737488351232 := by
  obtain ⟨s, rfl, rfl, _⟩ := DataW.trod_string hu h
  refine ⟨s, rfl, ?_⟩
  have := hw s.data.toList.length (by simp [DataW.weights])
  simpa [reachBytes] using this
theorem weights_agg {t : TypeId} {fs : Array Field} {parts : List (DataW H)} (ht : P.underlying t = some (.struct fs)) : (DataW.agg parts).weights P t = DataW.weightsEach P (fs.toList.map (·.type)) parts := by simp only [DataW.weights, ht]
/-- what an argument's parts weigh -/
theorem weights_at {ts : List TypeId} {ds : List (DataW H)} (hsz : (DataW.weightsEach P ts ds).all (· ≤ reachBytes) = true) {j : Nat} {t : TypeId} {d : DataW H} (ht : ts[j]? = some t) (hd : ds[j]? = some d) : ∀ n ∈ d.weights P t, n ≤ reachBytes := fun n hn => by
  have := List.all_eq_true.1 hsz _ (DataW.weights_mem_each ht hd n hn)
  simpa using this
end
end Go.Proofs.Rk
namespace Go.Proofs.Ytliacfjdenfldaa
open Go.RowKit Go.Proofs.Rk
def ok68 (a : A68) : Prop := (Lit.int .i64 a.f1).wf = true ∧ a.f2.size ≤ 140737488351232
theorem rd68 {H : Type} {enc : TypeId × Value → H} {w : World} {base : Nat} {spare : Nat → Bool} {held : Bool} {fuel : Nat} {cs : List Value} {x : DataW H × List MemPlace}
    (h : DataW.trod enc Try.prog w base spare held fuel 68 cs = some x) (hw : ∀ n ∈ x.1.weights Try.prog 68, n ≤ reachBytes) : ∃ a : A68, cs = A68.l a ∧ ok68 a := by
  obtain ⟨xs, m, _, hx, hlen, hxl, hg⟩ := DataW.trod_struct Try.underlying68 h
  have e : (DataW.agg (xs.map (·.1))).weights Try.prog 68 = DataW.weightsEach Try.prog [4, 2, 9] (xs.map (·.1)) := weights_agg Try.underlying68
  have hx1 : x.1 = DataW.agg (xs.map (·.1)) := congrArg Prod.fst hx
  rw [hx1, e] at hw
  have hw2 := hw
  clear e hx1 hx
  have hlen' : cs.length = 3 := hlen.trans (by kernel_rfl)
  clear hlen h hw
  obtain ⟨c0, c1, c2, rfl⟩ := len_3 hlen'
  clear hlen'
  obtain ⟨x0, _, g0, _⟩ := fldx hg hxl 0 _ rfl 4 0 1 rfl rfl cellsOf_4
  obtain ⟨a0, e0, o0⟩ := (Kn.bool Try.underlying4).rd g0
  have e0' : [c0] = [(.bool a0 : Value)] := e0
  simp only [List.cons.injEq, and_true] at e0'
  obtain rfl := e0'
  obtain ⟨x1, _, g1, _⟩ := fldx hg hxl 1 _ rfl 2 1 1 rfl rfl cellsOf_2
  obtain ⟨a1, e1, o1⟩ := (Kn.int Try.underlying2).rd g1
  have e1' : [c1] = [(.int .i64 a1 : Value)] := e1
  simp only [List.cons.injEq, and_true] at e1'
  obtain rfl := e1'
  obtain ⟨x2, _, g2, u2⟩ := fldx hg hxl 2 _ rfl 9 2 1 rfl rfl cellsOf_9
  obtain ⟨a2, e2, o2⟩ := str_w Try.underlying9 g2 (fun m hm => hw2 m (u2 m hm))
  have e2' : [c2] = [(.string a2 : Value)] := e2
  simp only [List.cons.injEq, and_true] at e2'
  obtain rfl := e2'
  exact ⟨⟨a0, a1, a2⟩, rfl, ⟨o1, o2⟩⟩
end Go.Proofs.Ytliacfjdenfldaa
