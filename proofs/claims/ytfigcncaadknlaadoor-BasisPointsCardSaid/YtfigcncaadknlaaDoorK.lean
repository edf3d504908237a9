import Derived.Test.YtfigcncaadknlaaDoorRows
import Derived.WalkKit
import Derived.WalkSpells
import Derived.WalkLawsBesides
import Derived.Laws.FloatArith
import Derived.Laws.Externs
import Derived.Deep.LoopGhost
import Derived.Deep.QuietTactic
import Derived.BigQuiet
import Derived.Handy
import Derived.RegionTactic
import Derived.ChangeAlike
import Derived.Deep.RegionHeld3
import Derived.Deep.Draws
import Derived.Deep.DeepCutAuto
namespace Go.Proofs.YtfigcncaadknlaaDoor
open Go.RowKit

theorem hidI {p : Prop} (h : p) : Hid p := h
theorem ret_int {k : IntKind} {a b : Int} (h : a = b) : Ending.returned (.int k a) = .returned (.int k b) := by rw [h]
theorem ret_bool {a b : Bool} (h : a = b) : Ending.returned (.bool a) = .returned (.bool b) := by rw [h]
theorem getD_lt {α : Type} (l : List α) {k : Nat} (d : α) (h : k < l.length) : l.getD k d = l[k] := by simp [List.getD_eq_getElem?_getD, h]

theorem below_step {w W w1 : World} (h : Below w.heap.size w W) (hb : Below W.heap.size W w1) : Below w.heap.size w w1 := h.trans (hb.mono h.size)
theorem below_new {w W : World} (h : Below w.heap.size w W) (o : Obj) : Below w.heap.size w (W.alloc o) := h.alloc h.size o
theorem bcell {W w1 : World} (hb : Below W.heap.size W w1) : (∀ b o, b < W.heap.size → w1.cell? ⟨b, o, none⟩ = W.cell? ⟨b, o, none⟩) ∧ (∀ b o, b < W.heap.size → w1.frozen? ⟨b, o, none⟩ = W.frozen? ⟨b, o, none⟩) :=
  ⟨fun b o h => hb.cell (p := ⟨b, o, none⟩) h, fun b o h => hb.frozen (p := ⟨b, o, none⟩) h⟩

/-- Block b is known whole, and may be written. -/
def Blk (w : World) (b : Nat) (cs : Array Value) (T : TypeId) : Prop := w.heap[b]? = some (.cells cs T (0, 0))
section
variable {w W : World} {b : Nat} {cs : Array Value} {T : TypeId}
theorem Blk.lt (h : Blk w b cs T) : b < w.heap.size := by
  by_cases g : b < w.heap.size
  · exact g
  · unfold Blk at h; rw [Array.getElem?_eq_none (by omega)] at h; cases h
theorem Blk.c (h : Blk w b cs T) : ∀ o, w.cell? ⟨b, o, none⟩ = cs[o]? := fun o => by
  unfold Blk at h; simp [World.cell?, h]
theorem Blk.f (h : Blk w b cs T) : ∀ o, w.frozen? ⟨b, o, none⟩ = false := fun o => by
  unfold Blk at h; simp [World.frozen?, h]
theorem Blk.new' (h : b = w.heap.size) : Blk (w.alloc (.cells cs T)) b cs T := by
  subst h; show (w.heap.push _)[w.heap.size]? = _; simp
theorem Blk.al (h : Blk w b cs T) (o : Obj) : Blk (w.alloc o) b cs T := by
  have := h.lt
  show (w.heap.push _)[b]? = _; rw [Array.getElem?_push, if_neg (by omega)]; exact h
theorem Blk.be (h : Blk W b cs T) (hb : Below W.heap.size W w) : Blk w b cs T := (hb.block b h.lt).trans h
theorem Blk.dr (h : Blk w b cs T) : Blk w.drew b cs T := h
theorem Blk.so (h : Blk w b cs T) {a : Addr} {v : Value} (hne : b ≠ a.block) : Blk (w.setCell a v) b cs T := by
  show (w.setCell a v).heap[b]? = _
  rw [Below.heap_setCell _ _ _ _ hne]; exact h
theorem Blk.of {cs' : Array Value} (h : Blk w b cs T) (e : cs = cs') : Blk w b cs' T := e ▸ h
end

theorem gb_refl (w : World) (r : Option Nat) : w.grownBy w r := ⟨rfl, rfl, rfl, Nat.le_refl _, fun _ _ _ => rfl⟩
theorem gb_alloc {w W : World} {r : Option Nat} (h : w.grownBy W r) (o : Obj) : w.grownBy (W.alloc o) r :=
  ⟨h.os, h.tape, h.output, Nat.le_trans h.size (by simp), fun k hk hr => (Below.heap_alloc W o k (Nat.lt_of_lt_of_le hk h.size)).trans (h.block k hk hr)⟩
theorem gb_drew {w W : World} {r : Option Nat} (h : w.grownBy W r) : w.grownBy W.drew r := ⟨h.os, h.tape, h.output, h.size, h.block⟩
theorem gb_drewN {w W : World} {r : Option Nat} (h : w.grownBy W r) (n : Nat) : w.grownBy (W.drewN n) r := ⟨h.os, h.tape, h.output, h.size, h.block⟩
theorem gb_set {w W : World} {b : Nat} (h : w.grownBy W (some b)) (o : Nat) (v : Value) : w.grownBy (W.setCell ⟨b, o, none⟩ v) (some b) :=
  ⟨h.os, h.tape, h.output, by simpa [World.setCell] using h.size, fun k hk hr => (Below.heap_setCell W ⟨b, o, none⟩ v k (fun e => hr (by rw [e]))).trans (h.block k hk hr)⟩
theorem gb_below {w W w1 : World} {r : Option Nat} (h : w.grownBy W r) (hb : Below W.heap.size W w1) : w.grownBy w1 r :=
  ⟨hb.os.trans h.os, hb.tape.trans h.tape, hb.output.trans h.output, Nat.le_trans h.size hb.size, fun k hk hr => (hb.block k (Nat.lt_of_lt_of_le hk h.size)).trans (h.block k hk hr)⟩
theorem below_of_gb {w W w1 : World} {b : Nat} (h : Below w.heap.size w W) (hg : W.grownBy w1 (some b)) (hb : w.heap.size ≤ b) : Below w.heap.size w w1 :=
  h.grown hg h.size (fun k hk => by cases hk; exact hb)
theorem below_drewN {w W : World} (h : Below w.heap.size w W) (n : Nat) : Below w.heap.size w (W.drewN n) := ⟨h.os, h.tape, h.output, h.size, h.block⟩
theorem Blk.drN {w : World} {b : Nat} {cs : Array Value} {T : TypeId} (h : Blk w b cs T) (n : Nat) : Blk (w.drewN n) b cs T := h
theorem Blk.st {w : World} {b : Nat} {cs : Array Value} {T : TypeId} (h : Blk w b cs T) (o : Nat) (v : Value) : Blk (w.setCell ⟨b, o, none⟩ v) b (cs.setIfInBounds o v) T := by
  unfold Blk at h ⊢
  simp only [World.setCell, Array.getElem?_modify, if_true, h]
  rfl
theorem Blk.gb {w w1 : World} {b : Nat} {cs : Array Value} {T : TypeId} {r : Option Nat} (h : Blk w b cs T) (hg : w.grownBy w1 r) (hr : some b ≠ r) : Blk w1 b cs T := (hg.block b h.lt hr).trans h
/-- W's old blocks are as they were, and read so: what is held through a region. -/
theorem hold_refl (W : World) : Below W.heap.size W W ∧ (∀ b o, b < W.heap.size → W.cell? ⟨b, o, none⟩ = W.cell? ⟨b, o, none⟩) := ⟨Below.refl _ _, fun _ _ _ => rfl⟩
theorem hold_of {W w : World} (h : Below W.heap.size W w) : Below W.heap.size W w ∧ (∀ b o, b < W.heap.size → w.cell? ⟨b, o, none⟩ = W.cell? ⟨b, o, none⟩) := ⟨h, (bcell h).1⟩

end Go.Proofs.YtfigcncaadknlaaDoor
