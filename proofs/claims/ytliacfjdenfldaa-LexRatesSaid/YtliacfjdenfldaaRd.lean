/- How the arguments' values lie in cells: printed by row2.py. -/
import Derived.Test.YtliacfjdenfldaaRows
import Derived.Test.YtliacfjdenfldaaKp
namespace Go.Proofs.Ytliacfjdenfldaa
open Go.RowKit Go.Proofs.Rk Go.Proofs.YtliacfjdenfldaaW.PrintWords
set_option linter.unusedVariables false
set_option linter.unusedSimpArgs false
theorem cellsOf_2 : Try.prog.cellsOf 2 = 1 := by kernel_rfl
theorem cellsOf_4 : Try.prog.cellsOf 4 = 1 := by kernel_rfl
theorem cellsOf_5 : Try.prog.cellsOf 5 = 1 := by kernel_rfl
theorem cellsOf_9 : Try.prog.cellsOf 9 = 1 := by kernel_rfl
theorem cellsOf_34 : Try.prog.cellsOf 34 = 6 := by kernel_rfl
theorem cellsOf_91 : Try.prog.cellsOf 91 = 1 := by kernel_rfl
theorem cellsOf_111 : Try.prog.cellsOf 111 = 4 := by kernel_rfl
theorem len_2 {cs : List Value} (h : cs.length = 2) : ∃ c0 c1, cs = [c0, c1] := by
  match cs, h with
  | [c0, c1], _ => exact ⟨c0, c1, rfl⟩
theorem len_3 {cs : List Value} (h : cs.length = 3) : ∃ c0 c1 c2, cs = [c0, c1, c2] := by
  match cs, h with
  | [c0, c1, c2], _ => exact ⟨c0, c1, c2, rfl⟩
theorem len_4 {cs : List Value} (h : cs.length = 4) : ∃ c0 c1 c2 c3, cs = [c0, c1, c2, c3] := by
  match cs, h with
  | [c0, c1, c2, c3], _ => exact ⟨c0, c1, c2, c3, rfl⟩
theorem len_5 {cs : List Value} (h : cs.length = 5) : ∃ c0 c1 c2 c3 c4, cs = [c0, c1, c2, c3, c4] := by
  match cs, h with
  | [c0, c1, c2, c3, c4], _ => exact ⟨c0, c1, c2, c3, c4, rfl⟩
theorem len_6 {cs : List Value} (h : cs.length = 6) : ∃ c0 c1 c2 c3 c4 c5, cs = [c0, c1, c2, c3, c4, c5] := by
  match cs, h with
  | [c0, c1, c2, c3, c4, c5], _ => exact ⟨c0, c1, c2, c3, c4, c5, rfl⟩
theorem len_8 {cs : List Value} (h : cs.length = 8) : ∃ c0 c1 c2 c3 c4 c5 c6 c7, cs = [c0, c1, c2, c3, c4, c5, c6, c7] := by
  match cs, h with
  | [c0, c1, c2, c3, c4, c5, c6, c7], _ => exact ⟨c0, c1, c2, c3, c4, c5, c6, c7, rfl⟩
theorem len_9 {cs : List Value} (h : cs.length = 9) : ∃ c0 c1 c2 c3 c4 c5 c6 c7 c8, cs = [c0, c1, c2, c3, c4, c5, c6, c7, c8] := by
  match cs, h with
  | [c0, c1, c2, c3, c4, c5, c6, c7, c8], _ => exact ⟨c0, c1, c2, c3, c4, c5, c6, c7, c8, rfl⟩
structure A29 where
  f0 : ByteArray
  f1 : ByteArray
  f2 : ByteArray
  f3 : Int
  f4 : ByteArray
  f5 : Int
  f6 : Int
  f7 : Int
def A29.l (a : A29) : List Value := [.string a.f0, .string a.f1, .string a.f2, .int .i64 a.f3, .string a.f4, .int .i64 a.f5, .int .i64 a.f6, .int .i64 a.f7]
def k29 : Kn Try.prog 29 A29 where
  cells := A29.l
  ok a := (Kn.str Try.underlying9).ok a.f0 ∧ (Kn.str Try.underlying9).ok a.f1 ∧ (Kn.str Try.underlying9).ok a.f2 ∧ (Kn.int Try.underlying2).ok a.f3 ∧ (Kn.str Try.underlying9).ok a.f4 ∧ (Kn.int Try.underlying2).ok a.f5 ∧ (Kn.int Try.underlying2).ok a.f6 ∧ (Kn.int Try.underlying2).ok a.f7
  rd := by
    intro H enc w base spare held fuel cs x h
    obtain ⟨xs, m, _, _, hlen, hxl, hg⟩ := DataW.trod_struct Try.underlying29 h
    have hlen' : cs.length = 8 := hlen.trans (by kernel_rfl)
    clear hlen h
    obtain ⟨c0, c1, c2, c3, c4, c5, c6, c7, rfl⟩ := len_8 hlen'
    clear hlen'
    obtain ⟨x0, g0⟩ := fld hg hxl 0 _ rfl 9 0 1 rfl rfl cellsOf_9
    obtain ⟨a0, e0, o0⟩ := (Kn.str Try.underlying9).rd g0
    have e0' : [c0] = [(.string a0 : Value)] := e0
    simp only [List.cons.injEq, and_true] at e0'
    obtain rfl := e0'
    obtain ⟨x1, g1⟩ := fld hg hxl 1 _ rfl 9 1 1 rfl rfl cellsOf_9
    obtain ⟨a1, e1, o1⟩ := (Kn.str Try.underlying9).rd g1
    have e1' : [c1] = [(.string a1 : Value)] := e1
    simp only [List.cons.injEq, and_true] at e1'
    obtain rfl := e1'
    obtain ⟨x2, g2⟩ := fld hg hxl 2 _ rfl 9 2 1 rfl rfl cellsOf_9
    obtain ⟨a2, e2, o2⟩ := (Kn.str Try.underlying9).rd g2
    have e2' : [c2] = [(.string a2 : Value)] := e2
    simp only [List.cons.injEq, and_true] at e2'
    obtain rfl := e2'
    obtain ⟨x3, g3⟩ := fld hg hxl 3 _ rfl 2 3 1 rfl rfl cellsOf_2
    obtain ⟨a3, e3, o3⟩ := (Kn.int Try.underlying2).rd g3
    have e3' : [c3] = [(.int .i64 a3 : Value)] := e3
    simp only [List.cons.injEq, and_true] at e3'
    obtain rfl := e3'
    obtain ⟨x4, g4⟩ := fld hg hxl 4 _ rfl 9 4 1 rfl rfl cellsOf_9
    obtain ⟨a4, e4, o4⟩ := (Kn.str Try.underlying9).rd g4
    have e4' : [c4] = [(.string a4 : Value)] := e4
    simp only [List.cons.injEq, and_true] at e4'
    obtain rfl := e4'
    obtain ⟨x5, g5⟩ := fld hg hxl 5 _ rfl 2 5 1 rfl rfl cellsOf_2
    obtain ⟨a5, e5, o5⟩ := (Kn.int Try.underlying2).rd g5
    have e5' : [c5] = [(.int .i64 a5 : Value)] := e5
    simp only [List.cons.injEq, and_true] at e5'
    obtain rfl := e5'
    obtain ⟨x6, g6⟩ := fld hg hxl 6 _ rfl 2 6 1 rfl rfl cellsOf_2
    obtain ⟨a6, e6, o6⟩ := (Kn.int Try.underlying2).rd g6
    have e6' : [c6] = [(.int .i64 a6 : Value)] := e6
    simp only [List.cons.injEq, and_true] at e6'
    obtain rfl := e6'
    obtain ⟨x7, g7⟩ := fld hg hxl 7 _ rfl 2 7 1 rfl rfl cellsOf_2
    obtain ⟨a7, e7, o7⟩ := (Kn.int Try.underlying2).rd g7
    have e7' : [c7] = [(.int .i64 a7 : Value)] := e7
    simp only [List.cons.injEq, and_true] at e7'
    obtain rfl := e7'
    exact ⟨⟨a0, a1, a2, a3, a4, a5, a6, a7⟩, rfl, ⟨o0, o1, o2, o3, o4, o5, o6, o7⟩⟩
/-- rows of them -/
def d29 : Kd A29 := Kp.plain 8 A29.l (fun _ => rfl) (by
  intro x u hu
  simp only [A29.l, List.mem_cons, List.not_mem_nil, or_false] at hu
  rcases hu with rfl | rfl | rfl | rfl | rfl | rfl | rfl | rfl <;> rfl)
structure A30 where
  f0 : Int
  f1 : Int
def A30.l (a : A30) : List Value := [.int .i64 a.f0, .int .i64 a.f1]
def k30 : Kn Try.prog 30 A30 where
  cells := A30.l
  ok a := (Kn.int Try.underlying2).ok a.f0 ∧ (Kn.int Try.underlying2).ok a.f1
  rd := by
    intro H enc w base spare held fuel cs x h
    obtain ⟨xs, m, _, _, hlen, hxl, hg⟩ := DataW.trod_array Try.underlying30 h
    have hlen' : cs.length = 2 := hlen.trans (by kernel_rfl)
    clear hlen h
    obtain ⟨c0, c1, rfl⟩ := len_2 hlen'
    clear hlen'
    obtain ⟨x0, g0⟩ := elt hg hxl 0 0 1 rfl (by decide) cellsOf_2
    obtain ⟨a0, e0, o0⟩ := (Kn.int Try.underlying2).rd g0
    have e0' : [c0] = [(.int .i64 a0 : Value)] := e0
    simp only [List.cons.injEq, and_true] at e0'
    obtain rfl := e0'
    obtain ⟨x1, g1⟩ := elt hg hxl 1 1 1 rfl (by decide) cellsOf_2
    obtain ⟨a1, e1, o1⟩ := (Kn.int Try.underlying2).rd g1
    have e1' : [c1] = [(.int .i64 a1 : Value)] := e1
    simp only [List.cons.injEq, and_true] at e1'
    obtain rfl := e1'
    exact ⟨⟨a0, a1⟩, rfl, ⟨o0, o1⟩⟩
/-- rows of them -/
def d30 : Kd A30 := Kp.plain 2 A30.l (fun _ => rfl) (by
  intro x u hu
  simp only [A30.l, List.mem_cons, List.not_mem_nil, or_false] at hu
  rcases hu with rfl | rfl <;> rfl)
structure A34 where
  f0 : ByteArray
  f1 : ByteArray
  f2 : ByteArray
  f3 : ByteArray
  f4 : Int
  f5 : Int
def A34.l (a : A34) : List Value := [.string a.f0, .string a.f1, .string a.f2, .string a.f3, .int .i64 a.f4, .int .i64 a.f5]
def k34 : Kn Try.prog 34 A34 where
  cells := A34.l
  ok a := (Kn.str Try.underlying9).ok a.f0 ∧ (Kn.str Try.underlying9).ok a.f1 ∧ (Kn.str Try.underlying9).ok a.f2 ∧ (Kn.str Try.underlying9).ok a.f3 ∧ (Kn.int Try.underlying2).ok a.f4 ∧ (Kn.int Try.underlying2).ok a.f5
  rd := by
    intro H enc w base spare held fuel cs x h
    obtain ⟨xs, m, _, _, hlen, hxl, hg⟩ := DataW.trod_struct Try.underlying34 h
    have hlen' : cs.length = 6 := hlen.trans (by kernel_rfl)
    clear hlen h
    obtain ⟨c0, c1, c2, c3, c4, c5, rfl⟩ := len_6 hlen'
    clear hlen'
    obtain ⟨x0, g0⟩ := fld hg hxl 0 _ rfl 9 0 1 rfl rfl cellsOf_9
    obtain ⟨a0, e0, o0⟩ := (Kn.str Try.underlying9).rd g0
    have e0' : [c0] = [(.string a0 : Value)] := e0
    simp only [List.cons.injEq, and_true] at e0'
    obtain rfl := e0'
    obtain ⟨x1, g1⟩ := fld hg hxl 1 _ rfl 9 1 1 rfl rfl cellsOf_9
    obtain ⟨a1, e1, o1⟩ := (Kn.str Try.underlying9).rd g1
    have e1' : [c1] = [(.string a1 : Value)] := e1
    simp only [List.cons.injEq, and_true] at e1'
    obtain rfl := e1'
    obtain ⟨x2, g2⟩ := fld hg hxl 2 _ rfl 9 2 1 rfl rfl cellsOf_9
    obtain ⟨a2, e2, o2⟩ := (Kn.str Try.underlying9).rd g2
    have e2' : [c2] = [(.string a2 : Value)] := e2
    simp only [List.cons.injEq, and_true] at e2'
    obtain rfl := e2'
    obtain ⟨x3, g3⟩ := fld hg hxl 3 _ rfl 9 3 1 rfl rfl cellsOf_9
    obtain ⟨a3, e3, o3⟩ := (Kn.str Try.underlying9).rd g3
    have e3' : [c3] = [(.string a3 : Value)] := e3
    simp only [List.cons.injEq, and_true] at e3'
    obtain rfl := e3'
    obtain ⟨x4, g4⟩ := fld hg hxl 4 _ rfl 2 4 1 rfl rfl cellsOf_2
    obtain ⟨a4, e4, o4⟩ := (Kn.int Try.underlying2).rd g4
    have e4' : [c4] = [(.int .i64 a4 : Value)] := e4
    simp only [List.cons.injEq, and_true] at e4'
    obtain rfl := e4'
    obtain ⟨x5, g5⟩ := fld hg hxl 5 _ rfl 2 5 1 rfl rfl cellsOf_2
    obtain ⟨a5, e5, o5⟩ := (Kn.int Try.underlying2).rd g5
    have e5' : [c5] = [(.int .i64 a5 : Value)] := e5
    simp only [List.cons.injEq, and_true] at e5'
    obtain rfl := e5'
    exact ⟨⟨a0, a1, a2, a3, a4, a5⟩, rfl, ⟨o0, o1, o2, o3, o4, o5⟩⟩
/-- rows of them -/
def d34 : Kd A34 := Kp.plain 6 A34.l (fun _ => rfl) (by
  intro x u hu
  simp only [A34.l, List.mem_cons, List.not_mem_nil, or_false] at hu
  rcases hu with rfl | rfl | rfl | rfl | rfl | rfl <;> rfl)
structure A93 where
  f0 : A34
  f1 : Int
  f2 : Bool
  f3 : Int
def A93.l (a : A93) : List Value := [.string a.f0.f0, .string a.f0.f1, .string a.f0.f2, .string a.f0.f3, .int .i64 a.f0.f4, .int .i64 a.f0.f5, .int .u8 a.f1, .bool a.f2, .int .i8 a.f3]
def k93 : Kn Try.prog 93 A93 where
  cells := A93.l
  ok a := k34.ok a.f0 ∧ (Kn.int Try.underlying5).ok a.f1 ∧ (Kn.bool Try.underlying4).ok a.f2 ∧ (Kn.int Try.underlying91).ok a.f3
  rd := by
    intro H enc w base spare held fuel cs x h
    obtain ⟨xs, m, _, _, hlen, hxl, hg⟩ := DataW.trod_struct Try.underlying93 h
    have hlen' : cs.length = 9 := hlen.trans (by kernel_rfl)
    clear hlen h
    obtain ⟨c0, c1, c2, c3, c4, c5, c6, c7, c8, rfl⟩ := len_9 hlen'
    clear hlen'
    obtain ⟨x0, g0⟩ := fld hg hxl 0 _ rfl 34 0 6 rfl rfl cellsOf_34
    obtain ⟨a0, e0, o0⟩ := k34.rd g0
    have e0' : [c0, c1, c2, c3, c4, c5] = [(.string a0.f0 : Value), .string a0.f1, .string a0.f2, .string a0.f3, .int .i64 a0.f4, .int .i64 a0.f5] := e0
    simp only [List.cons.injEq, and_true] at e0'
    obtain ⟨rfl, rfl, rfl, rfl, rfl, rfl⟩ := e0'
    obtain ⟨x1, g1⟩ := fld hg hxl 1 _ rfl 5 6 1 rfl rfl cellsOf_5
    obtain ⟨a1, e1, o1⟩ := (Kn.int Try.underlying5).rd g1
    have e1' : [c6] = [(.int .u8 a1 : Value)] := e1
    simp only [List.cons.injEq, and_true] at e1'
    obtain rfl := e1'
    obtain ⟨x2, g2⟩ := fld hg hxl 2 _ rfl 4 7 1 rfl rfl cellsOf_4
    obtain ⟨a2, e2, o2⟩ := (Kn.bool Try.underlying4).rd g2
    have e2' : [c7] = [(.bool a2 : Value)] := e2
    simp only [List.cons.injEq, and_true] at e2'
    obtain rfl := e2'
    obtain ⟨x3, g3⟩ := fld hg hxl 3 _ rfl 91 8 1 rfl rfl cellsOf_91
    obtain ⟨a3, e3, o3⟩ := (Kn.int Try.underlying91).rd g3
    have e3' : [c8] = [(.int .i8 a3 : Value)] := e3
    simp only [List.cons.injEq, and_true] at e3'
    obtain rfl := e3'
    exact ⟨⟨a0, a1, a2, a3⟩, rfl, ⟨o0, o1, o2, o3⟩⟩
/-- rows of them -/
def d93 : Kd A93 := Kp.plain 9 A93.l (fun _ => rfl) (by
  intro x u hu
  simp only [A93.l, List.mem_cons, List.not_mem_nil, or_false] at hu
  rcases hu with rfl | rfl | rfl | rfl | rfl | rfl | rfl | rfl | rfl <;> rfl)
structure A111 where
  f0 : ByteArray
  f1 : ByteArray
  f2 : Int
  f3 : Int
def A111.l (a : A111) : List Value := [.string a.f0, .string a.f1, .int .i64 a.f2, .int .i64 a.f3]
def k111 : Kn Try.prog 111 A111 where
  cells := A111.l
  ok a := (Kn.str Try.underlying9).ok a.f0 ∧ (Kn.str Try.underlying9).ok a.f1 ∧ (Kn.int Try.underlying2).ok a.f2 ∧ (Kn.int Try.underlying2).ok a.f3
  rd := by
    intro H enc w base spare held fuel cs x h
    obtain ⟨xs, m, _, _, hlen, hxl, hg⟩ := DataW.trod_struct Try.underlying111 h
    have hlen' : cs.length = 4 := hlen.trans (by kernel_rfl)
    clear hlen h
    obtain ⟨c0, c1, c2, c3, rfl⟩ := len_4 hlen'
    clear hlen'
    obtain ⟨x0, g0⟩ := fld hg hxl 0 _ rfl 9 0 1 rfl rfl cellsOf_9
    obtain ⟨a0, e0, o0⟩ := (Kn.str Try.underlying9).rd g0
    have e0' : [c0] = [(.string a0 : Value)] := e0
    simp only [List.cons.injEq, and_true] at e0'
    obtain rfl := e0'
    obtain ⟨x1, g1⟩ := fld hg hxl 1 _ rfl 9 1 1 rfl rfl cellsOf_9
    obtain ⟨a1, e1, o1⟩ := (Kn.str Try.underlying9).rd g1
    have e1' : [c1] = [(.string a1 : Value)] := e1
    simp only [List.cons.injEq, and_true] at e1'
    obtain rfl := e1'
    obtain ⟨x2, g2⟩ := fld hg hxl 2 _ rfl 2 2 1 rfl rfl cellsOf_2
    obtain ⟨a2, e2, o2⟩ := (Kn.int Try.underlying2).rd g2
    have e2' : [c2] = [(.int .i64 a2 : Value)] := e2
    simp only [List.cons.injEq, and_true] at e2'
    obtain rfl := e2'
    obtain ⟨x3, g3⟩ := fld hg hxl 3 _ rfl 2 3 1 rfl rfl cellsOf_2
    obtain ⟨a3, e3, o3⟩ := (Kn.int Try.underlying2).rd g3
    have e3' : [c3] = [(.int .i64 a3 : Value)] := e3
    simp only [List.cons.injEq, and_true] at e3'
    obtain rfl := e3'
    exact ⟨⟨a0, a1, a2, a3⟩, rfl, ⟨o0, o1, o2, o3⟩⟩
/-- rows of them -/
def d111 : Kd A111 := Kp.plain 4 A111.l (fun _ => rfl) (by
  intro x u hu
  simp only [A111.l, List.mem_cons, List.not_mem_nil, or_false] at hu
  rcases hu with rfl | rfl | rfl | rfl <;> rfl)
structure A113 where
  f0 : Int
  f1 : A111
  f2 : Int
def A113.l (a : A113) : List Value := [.int .u8 a.f0, .string a.f1.f0, .string a.f1.f1, .int .i64 a.f1.f2, .int .i64 a.f1.f3, .int .i64 a.f2]
def k113 : Kn Try.prog 113 A113 where
  cells := A113.l
  ok a := (Kn.int Try.underlying5).ok a.f0 ∧ k111.ok a.f1 ∧ (Kn.int Try.underlying2).ok a.f2
  rd := by
    intro H enc w base spare held fuel cs x h
    obtain ⟨xs, m, _, _, hlen, hxl, hg⟩ := DataW.trod_struct Try.underlying113 h
    have hlen' : cs.length = 6 := hlen.trans (by kernel_rfl)
    clear hlen h
    obtain ⟨c0, c1, c2, c3, c4, c5, rfl⟩ := len_6 hlen'
    clear hlen'
    obtain ⟨x0, g0⟩ := fld hg hxl 0 _ rfl 5 0 1 rfl rfl cellsOf_5
    obtain ⟨a0, e0, o0⟩ := (Kn.int Try.underlying5).rd g0
    have e0' : [c0] = [(.int .u8 a0 : Value)] := e0
    simp only [List.cons.injEq, and_true] at e0'
    obtain rfl := e0'
    obtain ⟨x1, g1⟩ := fld hg hxl 1 _ rfl 111 1 4 rfl rfl cellsOf_111
    obtain ⟨a1, e1, o1⟩ := k111.rd g1
    have e1' : [c1, c2, c3, c4] = [(.string a1.f0 : Value), .string a1.f1, .int .i64 a1.f2, .int .i64 a1.f3] := e1
    simp only [List.cons.injEq, and_true] at e1'
    obtain ⟨rfl, rfl, rfl, rfl⟩ := e1'
    obtain ⟨x2, g2⟩ := fld hg hxl 2 _ rfl 2 5 1 rfl rfl cellsOf_2
    obtain ⟨a2, e2, o2⟩ := (Kn.int Try.underlying2).rd g2
    have e2' : [c5] = [(.int .i64 a2 : Value)] := e2
    simp only [List.cons.injEq, and_true] at e2'
    obtain rfl := e2'
    exact ⟨⟨a0, a1, a2⟩, rfl, ⟨o0, o1, o2⟩⟩
/-- rows of them -/
def d113 : Kd A113 := Kp.plain 6 A113.l (fun _ => rfl) (by
  intro x u hu
  simp only [A113.l, List.mem_cons, List.not_mem_nil, or_false] at hu
  rcases hu with rfl | rfl | rfl | rfl | rfl | rfl <;> rfl)
structure A68 where
  f0 : Bool
  f1 : Int
  f2 : ByteArray
def A68.l (a : A68) : List Value := [.bool a.f0, .int .i64 a.f1, .string a.f2]
def k68 : Kn Try.prog 68 A68 where
  cells := A68.l
  ok a := (Kn.bool Try.underlying4).ok a.f0 ∧ (Kn.int Try.underlying2).ok a.f1 ∧ (Kn.str Try.underlying9).ok a.f2
  rd := by
    intro H enc w base spare held fuel cs x h
    obtain ⟨xs, m, _, _, hlen, hxl, hg⟩ := DataW.trod_struct Try.underlying68 h
    have hlen' : cs.length = 3 := hlen.trans (by kernel_rfl)
    clear hlen h
    obtain ⟨c0, c1, c2, rfl⟩ := len_3 hlen'
    clear hlen'
    obtain ⟨x0, g0⟩ := fld hg hxl 0 _ rfl 4 0 1 rfl rfl cellsOf_4
    obtain ⟨a0, e0, o0⟩ := (Kn.bool Try.underlying4).rd g0
    have e0' : [c0] = [(.bool a0 : Value)] := e0
    simp only [List.cons.injEq, and_true] at e0'
    obtain rfl := e0'
    obtain ⟨x1, g1⟩ := fld hg hxl 1 _ rfl 2 1 1 rfl rfl cellsOf_2
    obtain ⟨a1, e1, o1⟩ := (Kn.int Try.underlying2).rd g1
    have e1' : [c1] = [(.int .i64 a1 : Value)] := e1
    simp only [List.cons.injEq, and_true] at e1'
    obtain rfl := e1'
    obtain ⟨x2, g2⟩ := fld hg hxl 2 _ rfl 9 2 1 rfl rfl cellsOf_9
    obtain ⟨a2, e2, o2⟩ := (Kn.str Try.underlying9).rd g2
    have e2' : [c2] = [(.string a2 : Value)] := e2
    simp only [List.cons.injEq, and_true] at e2'
    obtain rfl := e2'
    exact ⟨⟨a0, a1, a2⟩, rfl, ⟨o0, o1, o2⟩⟩
/-- rows of them -/
def d68 : Kd A68 := Kp.plain 3 A68.l (fun _ => rfl) (by
  intro x u hu
  simp only [A68.l, List.mem_cons, List.not_mem_nil, or_false] at hu
  rcases hu with rfl | rfl | rfl <;> rfl)
structure A48 where
  f0 : ByteArray
  f1 : ByteArray
  f2 : Int
  f3 : Int
def A48.l (a : A48) : List Value := [.string a.f0, .string a.f1, .int .i64 a.f2, .int .i64 a.f3]
def k48 : Kn Try.prog 48 A48 where
  cells := A48.l
  ok a := (Kn.str Try.underlying9).ok a.f0 ∧ (Kn.str Try.underlying9).ok a.f1 ∧ (Kn.int Try.underlying2).ok a.f2 ∧ (Kn.int Try.underlying2).ok a.f3
  rd := by
    intro H enc w base spare held fuel cs x h
    obtain ⟨xs, m, _, _, hlen, hxl, hg⟩ := DataW.trod_struct Try.underlying48 h
    have hlen' : cs.length = 4 := hlen.trans (by kernel_rfl)
    clear hlen h
    obtain ⟨c0, c1, c2, c3, rfl⟩ := len_4 hlen'
    clear hlen'
    obtain ⟨x0, g0⟩ := fld hg hxl 0 _ rfl 9 0 1 rfl rfl cellsOf_9
    obtain ⟨a0, e0, o0⟩ := (Kn.str Try.underlying9).rd g0
    have e0' : [c0] = [(.string a0 : Value)] := e0
    simp only [List.cons.injEq, and_true] at e0'
    obtain rfl := e0'
    obtain ⟨x1, g1⟩ := fld hg hxl 1 _ rfl 9 1 1 rfl rfl cellsOf_9
    obtain ⟨a1, e1, o1⟩ := (Kn.str Try.underlying9).rd g1
    have e1' : [c1] = [(.string a1 : Value)] := e1
    simp only [List.cons.injEq, and_true] at e1'
    obtain rfl := e1'
    obtain ⟨x2, g2⟩ := fld hg hxl 2 _ rfl 2 2 1 rfl rfl cellsOf_2
    obtain ⟨a2, e2, o2⟩ := (Kn.int Try.underlying2).rd g2
    have e2' : [c2] = [(.int .i64 a2 : Value)] := e2
    simp only [List.cons.injEq, and_true] at e2'
    obtain rfl := e2'
    obtain ⟨x3, g3⟩ := fld hg hxl 3 _ rfl 2 3 1 rfl rfl cellsOf_2
    obtain ⟨a3, e3, o3⟩ := (Kn.int Try.underlying2).rd g3
    have e3' : [c3] = [(.int .i64 a3 : Value)] := e3
    simp only [List.cons.injEq, and_true] at e3'
    obtain rfl := e3'
    exact ⟨⟨a0, a1, a2, a3⟩, rfl, ⟨o0, o1, o2, o3⟩⟩
/-- rows of them -/
def d48 : Kd A48 := Kp.plain 4 A48.l (fun _ => rfl) (by
  intro x u hu
  simp only [A48.l, List.mem_cons, List.not_mem_nil, or_false] at hu
  rcases hu with rfl | rfl | rfl | rfl <;> rfl)
structure A118 where
  f0 : ByteArray
  f1 : ByteArray
  f2 : Int
  f3 : Int
def A118.l (a : A118) : List Value := [.string a.f0, .string a.f1, .int .i64 a.f2, .int .i64 a.f3]
def k118 : Kn Try.prog 118 A118 where
  cells := A118.l
  ok a := (Kn.str Try.underlying9).ok a.f0 ∧ (Kn.str Try.underlying9).ok a.f1 ∧ (Kn.int Try.underlying2).ok a.f2 ∧ (Kn.int Try.underlying2).ok a.f3
  rd := by
    intro H enc w base spare held fuel cs x h
    obtain ⟨xs, m, _, _, hlen, hxl, hg⟩ := DataW.trod_struct Try.underlying118 h
    have hlen' : cs.length = 4 := hlen.trans (by kernel_rfl)
    clear hlen h
    obtain ⟨c0, c1, c2, c3, rfl⟩ := len_4 hlen'
    clear hlen'
    obtain ⟨x0, g0⟩ := fld hg hxl 0 _ rfl 9 0 1 rfl rfl cellsOf_9
    obtain ⟨a0, e0, o0⟩ := (Kn.str Try.underlying9).rd g0
    have e0' : [c0] = [(.string a0 : Value)] := e0
    simp only [List.cons.injEq, and_true] at e0'
    obtain rfl := e0'
    obtain ⟨x1, g1⟩ := fld hg hxl 1 _ rfl 9 1 1 rfl rfl cellsOf_9
    obtain ⟨a1, e1, o1⟩ := (Kn.str Try.underlying9).rd g1
    have e1' : [c1] = [(.string a1 : Value)] := e1
    simp only [List.cons.injEq, and_true] at e1'
    obtain rfl := e1'
    obtain ⟨x2, g2⟩ := fld hg hxl 2 _ rfl 2 2 1 rfl rfl cellsOf_2
    obtain ⟨a2, e2, o2⟩ := (Kn.int Try.underlying2).rd g2
    have e2' : [c2] = [(.int .i64 a2 : Value)] := e2
    simp only [List.cons.injEq, and_true] at e2'
    obtain rfl := e2'
    obtain ⟨x3, g3⟩ := fld hg hxl 3 _ rfl 2 3 1 rfl rfl cellsOf_2
    obtain ⟨a3, e3, o3⟩ := (Kn.int Try.underlying2).rd g3
    have e3' : [c3] = [(.int .i64 a3 : Value)] := e3
    simp only [List.cons.injEq, and_true] at e3'
    obtain rfl := e3'
    exact ⟨⟨a0, a1, a2, a3⟩, rfl, ⟨o0, o1, o2, o3⟩⟩
/-- rows of them -/
def d118 : Kd A118 := Kp.plain 4 A118.l (fun _ => rfl) (by
  intro x u hu
  simp only [A118.l, List.mem_cons, List.not_mem_nil, or_false] at hu
  rcases hu with rfl | rfl | rfl | rfl <;> rfl)
structure A98 where
  f0 : ByteArray
  f1 : ByteArray
  f2 : ByteArray
  f3 : Int
  f4 : Bool
def A98.l (a : A98) : List Value := [.string a.f0, .string a.f1, .string a.f2, .int .i64 a.f3, .bool a.f4]
def k98 : Kn Try.prog 98 A98 where
  cells := A98.l
  ok a := (Kn.str Try.underlying9).ok a.f0 ∧ (Kn.str Try.underlying9).ok a.f1 ∧ (Kn.str Try.underlying9).ok a.f2 ∧ (Kn.int Try.underlying2).ok a.f3 ∧ (Kn.bool Try.underlying4).ok a.f4
  rd := by
    intro H enc w base spare held fuel cs x h
    obtain ⟨xs, m, _, _, hlen, hxl, hg⟩ := DataW.trod_struct Try.underlying98 h
    have hlen' : cs.length = 5 := hlen.trans (by kernel_rfl)
    clear hlen h
    obtain ⟨c0, c1, c2, c3, c4, rfl⟩ := len_5 hlen'
    clear hlen'
    obtain ⟨x0, g0⟩ := fld hg hxl 0 _ rfl 9 0 1 rfl rfl cellsOf_9
    obtain ⟨a0, e0, o0⟩ := (Kn.str Try.underlying9).rd g0
    have e0' : [c0] = [(.string a0 : Value)] := e0
    simp only [List.cons.injEq, and_true] at e0'
    obtain rfl := e0'
    obtain ⟨x1, g1⟩ := fld hg hxl 1 _ rfl 9 1 1 rfl rfl cellsOf_9
    obtain ⟨a1, e1, o1⟩ := (Kn.str Try.underlying9).rd g1
    have e1' : [c1] = [(.string a1 : Value)] := e1
    simp only [List.cons.injEq, and_true] at e1'
    obtain rfl := e1'
    obtain ⟨x2, g2⟩ := fld hg hxl 2 _ rfl 9 2 1 rfl rfl cellsOf_9
    obtain ⟨a2, e2, o2⟩ := (Kn.str Try.underlying9).rd g2
    have e2' : [c2] = [(.string a2 : Value)] := e2
    simp only [List.cons.injEq, and_true] at e2'
    obtain rfl := e2'
    obtain ⟨x3, g3⟩ := fld hg hxl 3 _ rfl 2 3 1 rfl rfl cellsOf_2
    obtain ⟨a3, e3, o3⟩ := (Kn.int Try.underlying2).rd g3
    have e3' : [c3] = [(.int .i64 a3 : Value)] := e3
    simp only [List.cons.injEq, and_true] at e3'
    obtain rfl := e3'
    obtain ⟨x4, g4⟩ := fld hg hxl 4 _ rfl 4 4 1 rfl rfl cellsOf_4
    obtain ⟨a4, e4, o4⟩ := (Kn.bool Try.underlying4).rd g4
    have e4' : [c4] = [(.bool a4 : Value)] := e4
    simp only [List.cons.injEq, and_true] at e4'
    obtain rfl := e4'
    exact ⟨⟨a0, a1, a2, a3, a4⟩, rfl, ⟨o0, o1, o2, o3, o4⟩⟩
/-- rows of them -/
def d98 : Kd A98 := Kp.plain 5 A98.l (fun _ => rfl) (by
  intro x u hu
  simp only [A98.l, List.mem_cons, List.not_mem_nil, or_false] at hu
  rcases hu with rfl | rfl | rfl | rfl | rfl <;> rfl)
structure A102 where
  f0 : ByteArray
  f1 : ByteArray
  f2 : Int
def A102.l (a : A102) : List Value := [.string a.f0, .string a.f1, .int .i64 a.f2]
def k102 : Kn Try.prog 102 A102 where
  cells := A102.l
  ok a := (Kn.str Try.underlying9).ok a.f0 ∧ (Kn.str Try.underlying9).ok a.f1 ∧ (Kn.int Try.underlying2).ok a.f2
  rd := by
    intro H enc w base spare held fuel cs x h
    obtain ⟨xs, m, _, _, hlen, hxl, hg⟩ := DataW.trod_struct Try.underlying102 h
    have hlen' : cs.length = 3 := hlen.trans (by kernel_rfl)
    clear hlen h
    obtain ⟨c0, c1, c2, rfl⟩ := len_3 hlen'
    clear hlen'
    obtain ⟨x0, g0⟩ := fld hg hxl 0 _ rfl 9 0 1 rfl rfl cellsOf_9
    obtain ⟨a0, e0, o0⟩ := (Kn.str Try.underlying9).rd g0
    have e0' : [c0] = [(.string a0 : Value)] := e0
    simp only [List.cons.injEq, and_true] at e0'
    obtain rfl := e0'
    obtain ⟨x1, g1⟩ := fld hg hxl 1 _ rfl 9 1 1 rfl rfl cellsOf_9
    obtain ⟨a1, e1, o1⟩ := (Kn.str Try.underlying9).rd g1
    have e1' : [c1] = [(.string a1 : Value)] := e1
    simp only [List.cons.injEq, and_true] at e1'
    obtain rfl := e1'
    obtain ⟨x2, g2⟩ := fld hg hxl 2 _ rfl 2 2 1 rfl rfl cellsOf_2
    obtain ⟨a2, e2, o2⟩ := (Kn.int Try.underlying2).rd g2
    have e2' : [c2] = [(.int .i64 a2 : Value)] := e2
    simp only [List.cons.injEq, and_true] at e2'
    obtain rfl := e2'
    exact ⟨⟨a0, a1, a2⟩, rfl, ⟨o0, o1, o2⟩⟩
/-- rows of them -/
def d102 : Kd A102 := Kp.plain 3 A102.l (fun _ => rfl) (by
  intro x u hu
  simp only [A102.l, List.mem_cons, List.not_mem_nil, or_false] at hu
  rcases hu with rfl | rfl | rfl <;> rfl)
structure A144 where
  f0 : ByteArray
  f1 : ByteArray
  f2 : ByteArray
  f3 : Int
  f4 : Bool
def A144.l (a : A144) : List Value := [.string a.f0, .string a.f1, .string a.f2, .int .i64 a.f3, .bool a.f4]
def k144 : Kn Try.prog 144 A144 where
  cells := A144.l
  ok a := (Kn.str Try.underlying9).ok a.f0 ∧ (Kn.str Try.underlying9).ok a.f1 ∧ (Kn.str Try.underlying9).ok a.f2 ∧ (Kn.int Try.underlying2).ok a.f3 ∧ (Kn.bool Try.underlying4).ok a.f4
  rd := by
    intro H enc w base spare held fuel cs x h
    obtain ⟨xs, m, _, _, hlen, hxl, hg⟩ := DataW.trod_struct Try.underlying144 h
    have hlen' : cs.length = 5 := hlen.trans (by kernel_rfl)
    clear hlen h
    obtain ⟨c0, c1, c2, c3, c4, rfl⟩ := len_5 hlen'
    clear hlen'
    obtain ⟨x0, g0⟩ := fld hg hxl 0 _ rfl 9 0 1 rfl rfl cellsOf_9
    obtain ⟨a0, e0, o0⟩ := (Kn.str Try.underlying9).rd g0
    have e0' : [c0] = [(.string a0 : Value)] := e0
    simp only [List.cons.injEq, and_true] at e0'
    obtain rfl := e0'
    obtain ⟨x1, g1⟩ := fld hg hxl 1 _ rfl 9 1 1 rfl rfl cellsOf_9
    obtain ⟨a1, e1, o1⟩ := (Kn.str Try.underlying9).rd g1
    have e1' : [c1] = [(.string a1 : Value)] := e1
    simp only [List.cons.injEq, and_true] at e1'
    obtain rfl := e1'
    obtain ⟨x2, g2⟩ := fld hg hxl 2 _ rfl 9 2 1 rfl rfl cellsOf_9
    obtain ⟨a2, e2, o2⟩ := (Kn.str Try.underlying9).rd g2
    have e2' : [c2] = [(.string a2 : Value)] := e2
    simp only [List.cons.injEq, and_true] at e2'
    obtain rfl := e2'
    obtain ⟨x3, g3⟩ := fld hg hxl 3 _ rfl 2 3 1 rfl rfl cellsOf_2
    obtain ⟨a3, e3, o3⟩ := (Kn.int Try.underlying2).rd g3
    have e3' : [c3] = [(.int .i64 a3 : Value)] := e3
    simp only [List.cons.injEq, and_true] at e3'
    obtain rfl := e3'
    obtain ⟨x4, g4⟩ := fld hg hxl 4 _ rfl 4 4 1 rfl rfl cellsOf_4
    obtain ⟨a4, e4, o4⟩ := (Kn.bool Try.underlying4).rd g4
    have e4' : [c4] = [(.bool a4 : Value)] := e4
    simp only [List.cons.injEq, and_true] at e4'
    obtain rfl := e4'
    exact ⟨⟨a0, a1, a2, a3, a4⟩, rfl, ⟨o0, o1, o2, o3, o4⟩⟩
/-- rows of them -/
def d144 : Kd A144 := Kp.plain 5 A144.l (fun _ => rfl) (by
  intro x u hu
  simp only [A144.l, List.mem_cons, List.not_mem_nil, or_false] at hu
  rcases hu with rfl | rfl | rfl | rfl | rfl <;> rfl)
structure A137 where
  f0 : ByteArray
  f1 : ByteArray
  f2 : Int
def A137.l (a : A137) : List Value := [.string a.f0, .string a.f1, .int .i64 a.f2]
def k137 : Kn Try.prog 137 A137 where
  cells := A137.l
  ok a := (Kn.str Try.underlying9).ok a.f0 ∧ (Kn.str Try.underlying9).ok a.f1 ∧ (Kn.int Try.underlying2).ok a.f2
  rd := by
    intro H enc w base spare held fuel cs x h
    obtain ⟨xs, m, _, _, hlen, hxl, hg⟩ := DataW.trod_struct Try.underlying137 h
    have hlen' : cs.length = 3 := hlen.trans (by kernel_rfl)
    clear hlen h
    obtain ⟨c0, c1, c2, rfl⟩ := len_3 hlen'
    clear hlen'
    obtain ⟨x0, g0⟩ := fld hg hxl 0 _ rfl 9 0 1 rfl rfl cellsOf_9
    obtain ⟨a0, e0, o0⟩ := (Kn.str Try.underlying9).rd g0
    have e0' : [c0] = [(.string a0 : Value)] := e0
    simp only [List.cons.injEq, and_true] at e0'
    obtain rfl := e0'
    obtain ⟨x1, g1⟩ := fld hg hxl 1 _ rfl 9 1 1 rfl rfl cellsOf_9
    obtain ⟨a1, e1, o1⟩ := (Kn.str Try.underlying9).rd g1
    have e1' : [c1] = [(.string a1 : Value)] := e1
    simp only [List.cons.injEq, and_true] at e1'
    obtain rfl := e1'
    obtain ⟨x2, g2⟩ := fld hg hxl 2 _ rfl 2 2 1 rfl rfl cellsOf_2
    obtain ⟨a2, e2, o2⟩ := (Kn.int Try.underlying2).rd g2
    have e2' : [c2] = [(.int .i64 a2 : Value)] := e2
    simp only [List.cons.injEq, and_true] at e2'
    obtain rfl := e2'
    exact ⟨⟨a0, a1, a2⟩, rfl, ⟨o0, o1, o2⟩⟩
/-- rows of them -/
def d137 : Kd A137 := Kp.plain 3 A137.l (fun _ => rfl) (by
  intro x u hu
  simp only [A137.l, List.mem_cons, List.not_mem_nil, or_false] at hu
  rcases hu with rfl | rfl | rfl <;> rfl)
end Go.Proofs.Ytliacfjdenfldaa
