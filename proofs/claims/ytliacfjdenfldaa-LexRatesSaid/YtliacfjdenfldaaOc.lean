import Derived.Test.YtliacfjdenfldaaOb
import Derived.Lib.Strings
namespace Go.Proofs.Ytliacfjdenfldaa
open Go.RowKit Go.Proofs.Kq
open Go.Proofs.YtliacfjdenfldaaW.PrintWords (pw_cell_below step_append_cells print_append_cells Kd Kd.C Kd.C_below)
open Go.Proofs.YtliacfjdenfldaaW.PrintLast
set_option linter.unusedSimpArgs false
set_option linter.unusedVariables false

/-- what take answers, what is left, is it cut -/
def takeB (s : ByteArray) (cut : Bool) (n : Nat) : ByteArray × ByteArray × Bool := if cut = true ∨ s.size < n then (⟨#[]⟩, ⟨#[]⟩, true) else (s.extract 0 n, s.extract n s.size, false)
theorem takeB_cut {s : ByteArray} {cut : Bool} {n : Nat} (h : cut = true ∨ s.size < n) : takeB s cut n = (⟨#[]⟩, ⟨#[]⟩, true) := if_pos h
theorem takeB_ok {s : ByteArray} {n : Nat} (h : n ≤ s.size) : takeB s false n = (s.extract 0 n, s.extract n s.size, false) := if_neg (by simp; omega)
def TakeR (g : Nat) (r : ByteArray × ByteArray × Bool) (w : World) (e : Ending) (w' : World) : Prop := e = .returned (.string r.1) ∧ Blk w' g #[.string r.2.1, .bool r.2.2] 164 ∧ Fr (fun k => k = g) w w'
set_option maxHeartbeats 2000000 in
theorem rtake_any (g : Nat) (s : ByteArray) (cut : Bool) (n : Nat) (w : World) (hB : Blk w g #[.string s, .bool cut] 164) (hn : n ≤ 100000) :
    Calls Try.prog 84 #[.pointer (some ⟨g, 0, none⟩), .int .i64 n] w (TakeR g (takeB s cut n) w) := by
  have hend : Hid (∀ (r : ByteArray) (s' : ByteArray) (c' : Bool) (w' : World), takeB s cut n = (r, s', c') → Blk w' g #[.string s', .bool c'] 164 → Fr (fun k => k = g) w w' → TakeR g (takeB s cut n) w (.returned (.string r)) w') := by
    intro r s' c' w' h1 h2 h3
    rw [h1]; exact ⟨rfl, h2, h3⟩
  have c0 := hB.c; have l0 := hB.lt; have f0 := hB.f
  cases cut
  · by_cases h : s.size < n
    · have hend2 := hidI (hend.out _ _ _ ((w.setCell ⟨g, 1, none⟩ (.bool true)).setCell ⟨g, 0, none⟩ (.string ⟨#[]⟩)) (takeB_cut (Or.inr h)) (((hB.st 1 (.bool true)).st 0 (.string ⟨#[]⟩)).of rfl) ((((Fr.refl (fun k => k = g) w).setCell (p := ⟨g, 1, none⟩) (fun _ => rfl) _)).setCell (p := ⟨g, 0, none⟩) (fun _ => rfl) _))
      clear hend hB
      go_enter Try.func84, Try.ntmps84
      go_wp2
      go_ret
      exact hend2.out
    · have hend2 := hidI (hend.out _ _ _ (w.setCell ⟨g, 0, none⟩ (.string (s.extract n s.size))) (takeB_ok (by omega)) ((hB.st 0 (.string (s.extract n s.size))).of rfl) ((Fr.refl (fun k => k = g) w).setCell (p := ⟨g, 0, none⟩) (fun _ => rfl) _))
      have hle : n ≤ s.size := by omega
      clear hend hB
      go_enter Try.func84, Try.ntmps84
      go_wp2
      go_ret
      exact hend2.out
  · have hend2 := hidI (hend.out _ _ _ ((w.setCell ⟨g, 1, none⟩ (.bool true)).setCell ⟨g, 0, none⟩ (.string ⟨#[]⟩)) (takeB_cut (Or.inl rfl)) (((hB.st 1 (.bool true)).st 0 (.string ⟨#[]⟩)).of rfl) ((((Fr.refl (fun k => k = g) w).setCell (p := ⟨g, 1, none⟩) (fun _ => rfl) _)).setCell (p := ⟨g, 0, none⟩) (fun _ => rfl) _))
    clear hend hB
    go_enter Try.func84, Try.ntmps84
    go_wp2
    go_ret
    exact hend2.out
def textB (s : ByteArray) (cut : Bool) : ByteArray × ByteArray × Bool :=
  if (takeB s cut 2).1.size = 0 then (⟨#[]⟩, (takeB s cut 2).2) else takeB (takeB s cut 2).2.1 (takeB s cut 2).2.2 (vI (bn (takeB s cut 2).1)).toNat
def intB (s : ByteArray) (cut : Bool) : Int × ByteArray × Bool :=
  if (takeB s cut 8).1.size = 0 then (0, (takeB s cut 8).2) else (wrap64 (vI (bn (takeB s cut 8).1)), (takeB s cut 8).2)
theorem take_size (s : ByteArray) (cut : Bool) (n : Nat) : (takeB s cut n).1.size ≤ n := by
  unfold takeB; split
  · exact Nat.zero_le _
  · simp only [ByteArray.size_extract]; omega
theorem toList_nil_of_size {s : ByteArray} (h : s.size = 0) : s.toList = [] := by
  rw [ByteArray.toList_eq]
  exact List.eq_nil_of_length_eq_zero (by rw [Array.length_toList]; exact h)
theorem toList_ne {s : ByteArray} (h : ¬ s.size = 0) : (s.toList == []) = false := by
  rw [beq_eq_false_iff_ne]
  intro e
  rw [ByteArray.toList_eq] at e
  exact h (by have := congrArg List.length e; rw [Array.length_toList] at this; exact this)
set_option maxHeartbeats 2000000 in
theorem rtext_any (g : Nat) (s : ByteArray) (cut : Bool) (w : World) (hB : Blk w g #[.string s, .bool cut] 164) :
    Calls Try.prog 43 #[.pointer (some ⟨g, 0, none⟩)] w (TakeR g (textB s cut) w) := by
  have hsz := take_size s cut 2
  have HB := hidI hB
  clear hB
  go_enter Try.func43, Try.ntmps43
  go_wp2_with fail
  refine (rtake_any g s cut 2 _ HB.out (by omega)).mono ?_
  rintro e w1 ⟨rfl, hB1, hF1⟩
  by_cases h0 : (takeB s cut 2).1.size = 0
  · have he : Hid (textB s cut = (⟨#[]⟩, (takeB s cut 2).2)) := by show _ = _; unfold textB; rw [if_pos h0]
    have ht := toList_nil_of_size h0
    have hfin : Hid (TakeR g (textB s cut) w (.returned (.string ⟨#[]⟩)) w1) := by show TakeR _ _ _ _ _; rw [he.out]; exact ⟨rfl, hB1, hF1⟩
    clear he hB1 hF1
    generalize takeB s cut 2 = t at *
    simp only []
    go_wp2
    go_ret
    exact hfin.out
  · have he : Hid (textB s cut = takeB (takeB s cut 2).2.1 (takeB s cut 2).2.2 (vI (bn (takeB s cut 2).1)).toNat) := by show _ = _; unfold textB; rw [if_neg h0]
    have hv := vI_bd (bn (takeB s cut 2).1) (bn_mem _)
    have hv2 : vI (bn (takeB s cut 2).1) < 65536 := by
      rw [bn_len] at hv
      have : (256 : Int) ^ (takeB s cut 2).1.size ≤ 65536 := by
        have h3 : (takeB s cut 2).1.size = 1 ∨ (takeB s cut 2).1.size = 2 := by omega
        rcases h3 with e | e <;> rw [e] <;> decide
      omega
    generalize takeB s cut 2 = t at *
    obtain ⟨v, hvv⟩ : ∃ v : Nat, vI (bn t.1) = v := ⟨(vI (bn t.1)).toNat, by omega⟩
    rw [hvv] at hv hv2 he
    simp only [Int.toNat_natCast] at he
    have HVV := hidI hvv
    have hne := toList_ne h0
    clear hvv h0
    have hvl : v ≤ 65535 := by omega
    simp only []
    go_wp2_with (go_at_call 85; refine (number_any t.1 _ (by omega)).mono ?_; rintro e w' ⟨rfl, rfl⟩; rw [HVV.out])
    refine (rtake_any g t.2.1 t.2.2 v _ hB1 (by omega)).mono ?_
    rintro e w2 ⟨rfl, hB2, hF2⟩
    have hfin : Hid (TakeR g (textB s cut) w (.returned (.string (takeB t.2.1 t.2.2 v).1)) w2) := by show TakeR _ _ _ _ _; rw [he.out]; exact ⟨rfl, hB2, hF1.trans hF2 (fun b _ h => h)⟩
    clear hB2 hF2 hB1 hF1 he
    simp only []
    go_wp2
    go_ret
    exact hfin.out
def IntR (g : Nat) (r : Int × ByteArray × Bool) (w : World) (e : Ending) (w' : World) : Prop := e = .returned (.int .i64 r.1) ∧ Blk w' g #[.string r.2.1, .bool r.2.2] 164 ∧ Fr (fun k => k = g) w w'
set_option maxHeartbeats 2000000 in
theorem rint_any (g : Nat) (s : ByteArray) (cut : Bool) (w : World) (hB : Blk w g #[.string s, .bool cut] 164) :
    Calls Try.prog 44 #[.pointer (some ⟨g, 0, none⟩)] w (IntR g (intB s cut) w) := by
  have hsz := take_size s cut 8
  have HB := hidI hB
  clear hB
  go_enter Try.func44, Try.ntmps44
  go_wp2_with fail
  refine (rtake_any g s cut 8 _ HB.out (by omega)).mono ?_
  rintro e w1 ⟨rfl, hB1, hF1⟩
  by_cases h0 : (takeB s cut 8).1.size = 0
  · have he : Hid (intB s cut = (0, (takeB s cut 8).2)) := by show _ = _; unfold intB; rw [if_pos h0]
    have ht := toList_nil_of_size h0
    have hfin : Hid (IntR g (intB s cut) w (.returned (.int .i64 0)) w1) := by show IntR _ _ _ _ _; rw [he.out]; exact ⟨rfl, hB1, hF1⟩
    clear he hB1 hF1
    generalize takeB s cut 8 = t at *
    simp only []
    go_wp2
    go_ret
    exact hfin.out
  · have he : Hid (intB s cut = (wrap64 (vI (bn (takeB s cut 8).1)), (takeB s cut 8).2)) := by show _ = _; unfold intB; rw [if_neg h0]
    generalize takeB s cut 8 = t at *
    have hne := toList_ne h0
    have hfin : Hid (IntR g (intB s cut) w (.returned (.int .i64 (wrap64 (vI (bn t.1))))) w1) := by show IntR _ _ _ _ _; rw [he.out]; exact ⟨rfl, hB1, hF1⟩
    clear h0 he hB1 hF1
    simp only []
    go_wp2_with (go_at_call 85; refine (number_any t.1 _ (by omega)).mono ?_; rintro e w' ⟨rfl, rfl⟩)
    go_ret
    exact hfin.out
def endB (s : ByteArray) (cut : Bool) : Int := if cut = true then 4 else if s.size = 0 then 0 else 3
set_option maxHeartbeats 2000000 in
theorem rend_any (g : Nat) (s : ByteArray) (cut : Bool) (w : World) (hB : Blk w g #[.string s, .bool cut] 164) :
    Calls Try.prog 45 #[.pointer (some ⟨g, 0, none⟩)] w fun e w' => e = .returned (.int .i64 (endB s cut)) ∧ w = w' := by
  have c0 := hB.c; have l0 := hB.lt
  clear hB
  cases cut
  · by_cases h0 : s.size = 0
    · have hr : Hid (endB s false = 0) := by show _ = _; simp [endB, h0]
      have ht := toList_nil_of_size h0
      clear h0
      go_enter Try.func45, Try.ntmps45
      go_wp2
      go_ret
      exact ⟨by rw [hr.out]; rfl, rfl⟩
    · have hr : Hid (endB s false = 3) := by show _ = _; simp [endB, h0]
      have ht := toList_ne h0
      have ht2 : (s.toList != []) = true := by simp [bne, ht]
      clear h0
      go_enter Try.func45, Try.ntmps45
      go_wp2
      go_ret
      exact ⟨by rw [hr.out]; rfl, rfl⟩
  · have hr : Hid (endB s true = 4) := rfl
    go_enter Try.func45, Try.ntmps45
    go_wp2
    go_ret
    exact ⟨by rw [hr.out]; rfl, rfl⟩
set_option maxHeartbeats 1000000 in
theorem read_any (s : ByteArray) (w : World) :
    Calls Try.prog 42 #[.string s] w fun e w' => e = .returned (.pointer (some ⟨w.heap.size, 0, none⟩)) ∧ w' = w.alloc (.cells #[.string s, .bool false] 164) := by
  go_enter Try.func42, Try.ntmps42
  go_wp2
  go_ret
  exact ⟨rfl, rfl⟩

/- the writer -/
def l8o (z : Int) : List Value := [.int .u8 z]
def nums8 (xs : List Int) : List Value := xs.map fun z => .int .u8 z
theorem l8o_one : ∀ x : Int, ∀ u ∈ l8o x, u.oneCell' = true := by intro x u hu; rcases List.mem_singleton.1 hu with rfl; rfl
theorem flat8 : ∀ (xs : List Int), xs.flatMap l8o = nums8 xs
  | [] => rfl
  | x :: xs => by simp only [List.flatMap_cons, flat8 xs, l8o, nums8, List.map_cons, List.cons_append, List.nil_append]
theorem nums8_one (xs : List Int) : ∀ u ∈ nums8 xs, u.oneCell' = true := by
  intro u hu
  simp only [nums8, List.mem_map] at hu
  obtain ⟨z, _, rfl⟩ := hu; rfl
theorem info5o : (Try.prog.info? 5).map (fun i => (i.zero, i.size, i.bytes)) = some (some (.int .u8 0), 1, 1) := by kernel_rfl
theorem own_nbo {α : Type} {l : α → List Value} {sz : Nat} {e : TypeId} {w : World} {base : Nat} {v : Value} {xs : List α} {g T : Nat} {cs : Array Value} (h : Own l sz e w base v xs) (hB : Blk w g cs T) (hT : e ≠ T) : v.ownBlock ≠ some g := h.ne hB hT
theorem own_nums {w : World} {base : Nat} {v : Value} {xs ys : List Int} (h : w.ownsRow base 5 1 v (xs.length + ys.length) (xs.flatMap l8o ++ nums8 ys)) : Own l8o 1 5 w base v (xs ++ ys) :=
  Own.app (by rw [flat8 ys]; exact h)
theorem own_str {w : World} {base : Nat} {v : Value} {xs : List Int} {s : ByteArray} (h : w.ownsRow base 5 1 v (xs.length + s.size) (xs.flatMap l8o ++ Lib.strCells s)) : Own l8o 1 5 w base v (xs ++ bn s) := by
  refine Own.app ?_
  rw [bn_len, flat8 (bn s)]
  have e : nums8 (bn s) = Lib.strCells s := by simp [nums8, bn, Lib.strCells]
  rw [e]; exact h
theorem step_append_str {P : Program} (w : World) {ops : Array Oper} {o : Oper} {a : Act} {K : Act → World → Prop} {Q : Exit → Act → World → Prop} {E : Prop} (hgd : o.guard = none) (s x : Operand) (t u : TypeId)
    (ho : o.op = .call { callee := .builtin .append, args := #[s, x], argTypes := #[t, u] })
    (base : Nat) (e : TypeId) (i : TypeInfo) (ht : P.underlying t = some (.slice e)) (hu : P.underlying u = some .string) (hi : P.info? e = some i) (hz : i.zero = some (.int .u8 0)) (hsize : i.size = 1) (hby : i.bytes = 1)
    (v : Value) (n : Nat) (xs : List Value) (hs : a.eval s = v) (hown : w.ownsRow base e 1 v n xs) (y : ByteArray) (hx : a.eval x = .string y)
    (h63 : n + y.size ≤ maxLen) (hbytes : n + y.size ≤ 140737488355328) (hbase : base ≤ w.heap.size)
    (h : ∀ v' w', w'.ownsRow base e 1 v' (n + y.size) (xs ++ Lib.strCells y) → w.grownBy w' v.ownBlock → K (a.put o.dst v') w') :
    if Region.wanted o (yielded ops a.tmps) = true then Oper.wp P o a w K Q else E := by
  have hw : Region.wanted o (yielded ops a.tmps) = true := by simp [Region.wanted, hgd]
  rw [if_pos hw]
  obtain ⟨v', w', hrun, h2, h3, _⟩ := Lib.run_append_own_string (P := P) w base t u o.type e i ht hu hi hz hsize hby v n xs hown y h63 hbytes hbase
  unfold Oper.wp execOp
  simp only [ho, resolve, invoke, builtin, Sem.run_bind, Sem.run_pure, Result.andThen_ok, List.map_toArray, List.map_cons, List.map_nil, hs, hx, hrun]
  exact h v' w' h2 h3
structure Wt (w : World) (base g : Nat) (v : Value) (bs : List Int) (bad : Bool) : Prop where
  blk : Blk w g #[v, .bool bad] 66
  own : Own l8o 1 5 w base v bs
def WP (base g : Nat) (v : Value) (bs : List Int) (bad : Bool) (w : World) (e : Ending) (w' : World) : Prop :=
  ∃ v', e = .returned (.pointer (some ⟨g, 0, none⟩)) ∧ Wt w' base g v' bs bad ∧ Fr (fun k => k = g ∨ v.ownBlock = some k) w w'
def WtextP (base g : Nat) (v : Value) (bs : List Int) (bad : Bool) (s : ByteArray) (w : World) (e : Ending) (w' : World) : Prop :=
  WP base g v (if 65535 < s.size then bs else bs ++ lowI 2 (s.size : Int) ++ bn s) (bad || decide (65535 < s.size)) w e w'
theorem u64_bd (n : Int) : 0 ≤ IntKind.u64.wrap n ∧ IntKind.u64.wrap n ≤ 18446744073709551615 := by rw [IntKind.wrap_u64]; omega
set_option maxRecDepth 100000 in
set_option maxHeartbeats 4000000 in
theorem wint_any (base g : Nat) (v : Value) (bs : List Int) (bad : Bool) (n : Int) (w : World) (h : Wt w base g v bs bad) (hb : base ≤ w.heap.size) (hl : bs.length ≤ 1000000000) :
    Calls Try.prog 39 #[.pointer (some ⟨g, 0, none⟩), .int .i64 n] w (WP base g v (bs ++ lowI 8 (IntKind.u64.wrap n)) bad w) := by
  obtain ⟨hB, hO⟩ := h
  obtain ⟨A0, c0, rfl, _⟩ := hO.slice_
  have c0' := hB.c; have l0 := hB.lt
  obtain ⟨hu0, hu1⟩ := u64_bd n
  go_enter Try.func39, Try.ntmps39
  go_wp2_with fail
  refine start_ (n := 12) (S := fun w' => w'.cell? ⟨g, 0, none⟩ = some (.slice A0 bs.length c0)) (ds := [11]) #[false, false, false, false, false, false, false, false, false, false, false, false] (by kernel_rfl) rfl rfl ((by rw [World.cell?_drew]; exact c0' 0)) (fun hHeld => ?_)
  refine pure_ (i := 0) (N := some 7) (v := ?_) (a' := ?_) #[true, false, false, false, false, false, false, false, false, false, false, false] rfl rfl (by kernel_rfl) (fun _ _ _ h => h) (Or.inl ⟨by rfl, ?_⟩) ?_ ?_
  rotate_left
  · intro w'
    go_simp
    with_reducible rfl
  rotate_left
  · simp only [Act.put, List.setIfInBounds_toArray, List.set_cons_zero, List.set_cons_succ, i64_w, i32_w]
    rfl
  refine pure_ (i := 1) (N := some 8) (v := ?_) (a' := ?_) #[true, true, false, false, false, false, false, false, false, false, false, false] rfl rfl (by kernel_rfl) (fun _ _ _ h => h) (Or.inl ⟨by rfl, ?_⟩) ?_ ?_
  rotate_left
  · intro w'
    go_simp
    with_reducible rfl
  rotate_left
  · simp only [Act.put, List.setIfInBounds_toArray, List.set_cons_zero, List.set_cons_succ, i64_w, i32_w]
    rfl
  refine pure_ (i := 2) (N := some 9) (v := ?_) (a' := ?_) #[true, true, true, false, false, false, false, false, false, false, false, false] rfl rfl (by kernel_rfl) (fun _ _ _ h => h) (Or.inl ⟨by rfl, ?_⟩) ?_ ?_
  rotate_left
  · intro w'
    go_simp
    with_reducible rfl
  rotate_left
  · simp only [Act.put, List.setIfInBounds_toArray, List.set_cons_zero, List.set_cons_succ, i64_w, i32_w]
    rfl
  refine pure_ (i := 3) (N := some 10) (v := ?_) (a' := ?_) #[true, true, true, true, false, false, false, false, false, false, false, false] rfl rfl (by kernel_rfl) (fun _ _ _ h => h) (Or.inl ⟨by rfl, ?_⟩) ?_ ?_
  rotate_left
  · intro w'
    go_simp
    with_reducible rfl
  rotate_left
  · simp only [Act.put, List.setIfInBounds_toArray, List.set_cons_zero, List.set_cons_succ, i64_w, i32_w]
    rfl
  refine pure_ (i := 5) (N := some 12) (v := ?_) (a' := ?_) #[true, true, true, true, false, true, false, false, false, false, false, false] rfl rfl (by kernel_rfl) (fun _ _ _ h => h) (Or.inl ⟨by rfl, ?_⟩) ?_ ?_
  rotate_left
  · intro w'
    go_simp
    with_reducible rfl
  rotate_left
  · simp only [Act.put, List.setIfInBounds_toArray, List.set_cons_zero, List.set_cons_succ, i64_w, i32_w]
    rfl
  refine pure_ (i := 6) (N := some 13) (v := ?_) (a' := ?_) #[true, true, true, true, false, true, true, false, false, false, false, false] rfl rfl (by kernel_rfl) (fun _ _ _ h => h) (Or.inl ⟨by rfl, ?_⟩) ?_ ?_
  rotate_left
  · intro w'
    go_simp
    with_reducible rfl
  rotate_left
  · simp only [Act.put, List.setIfInBounds_toArray, List.set_cons_zero, List.set_cons_succ, i64_w, i32_w]
    rfl
  refine take_ (i := 4) (N := some 11) (v := ?_) (a' := ?_) #[true, true, true, true, true, true, true, false, false, false, false, false] rfl rfl (by kernel_rfl) (fun _ _ _ h => h) (Or.inl ⟨by rfl, ?_⟩) hHeld ?_ ?_
  rotate_left
  · intro w' s0
    go_simp
    with_reducible rfl
  rotate_left
  · simp only [Act.put, List.setIfInBounds_toArray, List.set_cons_zero, List.set_cons_succ, i64_w, i32_w]
    rfl
  refine one_ (i := 7) (N := some 14) #[true, true, true, true, true, true, true, true, false, false, false, false] rfl rfl (by kernel_rfl) (by decide) (fun K hK => ?_)
  refine goes_ Try.func82 (by kernel_rfl) rfl #[.int .u64 (IntKind.u64.wrap n), .int .i64 8] (by rfl) rfl rfl (by simp only [List.map_toArray, List.map_cons, List.map_nil]; rfl) ?_
  with_reducible refine (low8_any _ _ hu0 hu1).mono ?_
  rintro e w3 ⟨bL, rfl, hBL, hge, hb3⟩
  refine ⟨_, rfl, ?_⟩
  have hbL := below_step (Below.refl w.heap.size w).drew hb3
  have hB3 := (hB.dr).be hb3
  have hO3 := (hO.drew).below hb3
  have c3 := hB3.c; have l3 := hB3.lt; have f3 := hB3.f
  refine hK.out _ _ ((pw_cell_below hb3 hHeld)) (fun hHeld => ?_)
  clear hK K
  refine norm_ (a' := ?_) ?_ ?_
  rotate_left
  · show Act.put _ (some 14) _ = _
    simp only [Act.put, List.setIfInBounds_toArray, List.set_cons_zero, List.set_cons_succ, i64_w, i32_w]
    rfl
  refine one_ (i := 8) (N := some 15) #[true, true, true, true, true, true, true, true, true, false, false, false] rfl rfl (by kernel_rfl) (by decide) (fun K hK => ?_)
  obtain ⟨i0, hi0, hz0, hz1, hz2⟩ := info_parts info5o
  have hRd : Reads w3 w3.heap.size 1 (some ⟨bL, 0, none⟩) 8 (nums8 (lowI 8 (IntKind.u64.wrap n))) := ⟨by simp [nums8, lowI_len], fun _ => ⟨_, rfl, hBL.lt, fun j u hu => by rw [Kp.add_plain', Nat.zero_add, hBL.c]; simpa [lcells, nums8] using hu⟩⟩
  refine step_append_any w3 rfl (.tmp 11) (.tmp 14) 64 rfl base 5 i0 (.int .u8 0) 1 1 Try.underlying64 hi0 hz0 hz1 hz2 rfl (by decide) (.slice A0 bs.length c0) bs.length (bs.flatMap l8o) (by rfl) hO3 w3.heap.size (some ⟨bL, 0, none⟩) 8 8 (nums8 (lowI 8 (IntKind.u64.wrap n))) (by rfl) hRd (nums8_one _) (by simp only [maxLen]; omega) (by omega) (by have := hbL.size; omega) ?_
  intro v4 w4 ho4 hg4 hat4
  have hO4 := own_nums (xs := bs) (ys := lowI 8 (IntKind.u64.wrap n)) (by rw [lowI_len]; exact ho4)
  obtain ⟨zs4, hz4⟩ : ∃ z, z = bs ++ lowI 8 (IntKind.u64.wrap n) := ⟨_, rfl⟩
  rw [← hz4] at hO4
  have HZ4 := hidI hz4
  have hzl4 : zs4.length = bs.length + 8 := by rw [hz4, List.length_append, lowI_len]
  have HZL4 := hidI hzl4
  clear hz4 hzl4
  obtain ⟨A4, c4, rfl, _⟩ := hO4.slice_
  have NG3 := own_nbo hO3 hB3 (by decide)
  have hB4 : Blk w4 g #[.slice A0 bs.length c0, .bool bad] 66 := Blk.gb hB3 hg4 (Ne.symm NG3)
  have c4' := hB4.c; have l4 := hB4.lt; have f4 := hB4.f
  refine hK.out _ _ ((gcell hg4 NG3 hHeld)) (fun hHeld => ?_)
  clear hK K
  refine norm_ (a' := ?_) ?_ ?_
  rotate_left
  · show Act.put _ (some 15) _ = _
    simp only [Act.put, List.setIfInBounds_toArray, List.set_cons_zero, List.set_cons_succ, i64_w, i32_w]
    rfl
  refine pure_ (i := 9) (N := some 16) (v := ?_) (a' := ?_) #[true, true, true, true, true, true, true, true, true, true, false, false] rfl rfl (by kernel_rfl) (fun _ _ _ h => h) (Or.inl ⟨by rfl, ?_⟩) ?_ ?_
  rotate_left
  · intro w'
    go_simp
    with_reducible rfl
  rotate_left
  · simp only [Act.put, List.setIfInBounds_toArray, List.set_cons_zero, List.set_cons_succ, i64_w, i32_w]
    rfl
  refine pure_ (i := 10) (N := some 17) (v := ?_) (a' := ?_) #[true, true, true, true, true, true, true, true, true, true, true, false] rfl rfl (by kernel_rfl) (fun _ _ _ h => h) (Or.inl ⟨by rfl, ?_⟩) ?_ ?_
  rotate_left
  · intro w'
    go_simp
    with_reducible rfl
  rotate_left
  · simp only [Act.put, List.setIfInBounds_toArray, List.set_cons_zero, List.set_cons_succ, i64_w, i32_w]
    rfl
  refine last_ (i := 11) (N := none) #[true, true, true, true, true, true, true, true, true, true, true, true] rfl rfl (by kernel_rfl) (by decide) (fun K hK => ?_)
  refine skip_ (w1 := ?_) (by rfl) rfl ?_ ?_
  rotate_left
  · go_simp
    rfl
  refine hK.out _ _ ?_
  clear hK K
  refine done_ (by kernel_rfl) ?_
  have hfin : Hid (WP base g (.slice A0 bs.length c0) (bs ++ lowI 8 (IntKind.u64.wrap n)) bad w (.returned (.pointer (some ⟨g, 0, none⟩))) (w4.setCell ⟨g, 0, none⟩ (.slice A4 zs4.length c4))) :=
    ⟨_, rfl, ⟨(hB4.st 0 _).of rfl, by rw [← HZ4.out]; exact hO4.far (p := ⟨g, 0, none⟩) (own_nbo hO4 hB4 (by decide)) _⟩, Fr.setCell (S := fun k => k = g ∨ (Value.slice A0 bs.length c0).ownBlock = some k) (p := ⟨g, 0, none⟩) ((Fr.of_below hbL).grown hg4 (fun b h _ => Or.inr h)) (fun _ => Or.inl rfl) _⟩
  generalize w4.setCell ⟨g, 0, none⟩ _ = w7 at *
  clear hO4 hB4 c4' l4 f4 hg4 ho4 hat4 hB3 hO3 c3 l3 f3 hB hO c0' l0 hBL hb3 hbL
  go_wp2
  go_ret
  exact hfin.out
set_option maxRecDepth 100000 in
set_option maxHeartbeats 4000000 in
theorem wtext_any (base g : Nat) (v : Value) (bs : List Int) (bad : Bool) (s : ByteArray) (w : World) (h : Wt w base g v bs bad) (hb : base ≤ w.heap.size) (hl : bs.length ≤ 1000000000) :
    Calls Try.prog 38 #[.pointer (some ⟨g, 0, none⟩), .string s] w (WtextP base g v bs bad s w) := by
  obtain ⟨hB, hO⟩ := h
  obtain ⟨A0, c0, rfl, _⟩ := hO.slice_
  have c0' := hB.c; have l0 := hB.lt; have f0 := hB.f
  by_cases hsz : 65535 < s.size
  · have hfin : Hid (WtextP base g (.slice A0 bs.length c0) bs bad s w (.returned (.pointer (some ⟨g, 0, none⟩))) (w.setCell ⟨g, 1, none⟩ (.bool true))) := by
      show WtextP _ _ _ _ _ _ _ _ _
      unfold WtextP
      rw [if_pos hsz]
      have e : (bad || decide (65535 < s.size)) = true := by simp [hsz]
      rw [e]
      exact ⟨_, rfl, ⟨(hB.st 1 _).of rfl, hO.far (p := ⟨g, 1, none⟩) (own_nbo hO hB (by decide)) _⟩, Fr.setCell (S := fun k => k = g ∨ (Value.slice A0 bs.length c0).ownBlock = some k) (p := ⟨g, 1, none⟩) (Fr.refl _ w) (fun _ => Or.inl rfl) _⟩
    clear hB hO
    go_enter Try.func38, Try.ntmps38
    go_wp2
    go_ret
    exact hfin.out
  · have hend : Hid (∀ w', WP base g (.slice A0 bs.length c0) (bs ++ lowI 2 (s.size : Int) ++ bn s) bad w (.returned (.pointer (some ⟨g, 0, none⟩))) w' → WtextP base g (.slice A0 bs.length c0) bs bad s w (.returned (.pointer (some ⟨g, 0, none⟩))) w') := by
      intro w' h1
      unfold WtextP
      rw [if_neg hsz]
      have e : (bad || decide (65535 < s.size)) = bad := by simp; omega
      rw [e]; exact h1
    have hmr : IntKind.u64.wrap (s.size : Int) = (s.size : Int) := by rw [IntKind.wrap_u64]; omega
    go_enter Try.func38, Try.ntmps38
    go_wp2_with fail
    refine start_ (n := 15) (S := fun w' => w'.cell? ⟨g, 0, none⟩ = some (.slice A0 bs.length c0)) (ds := [14]) #[false, false, false, false, false, false, false, false, false, false, false, false, false, false, false] (by kernel_rfl) rfl rfl ((by rw [World.cell?_drew]; exact c0' 0)) (fun hHeld => ?_)
    refine pure_ (i := 0) (N := some 5) (v := ?_) (a' := ?_) #[true, false, false, false, false, false, false, false, false, false, false, false, false, false, false] rfl rfl (by kernel_rfl) (fun _ _ _ h => h) (Or.inl ⟨by rfl, ?_⟩) ?_ ?_
    rotate_left
    · intro w'
      go_simp
      with_reducible rfl
    rotate_left
    · simp only [Act.put, List.setIfInBounds_toArray, List.set_cons_zero, List.set_cons_succ, i64_w, i32_w]
      rfl
    refine pure_ (i := 1) (N := some 6) (v := ?_) (a' := ?_) #[true, true, false, false, false, false, false, false, false, false, false, false, false, false, false] rfl rfl (by kernel_rfl) (fun _ _ _ h => h) (Or.inl ⟨by rfl, ?_⟩) ?_ ?_
    rotate_left
    · intro w'
      go_simp
      with_reducible rfl
    rotate_left
    · simp only [Act.put, List.setIfInBounds_toArray, List.set_cons_zero, List.set_cons_succ, i64_w, i32_w]
      rfl
    refine pure_ (i := 2) (N := some 7) (v := ?_) (a' := ?_) #[true, true, true, false, false, false, false, false, false, false, false, false, false, false, false] rfl rfl (by kernel_rfl) (fun _ _ _ h => h) (Or.inl ⟨by rfl, ?_⟩) ?_ ?_
    rotate_left
    · intro w'
      go_simp
      with_reducible rfl
    rotate_left
    · simp only [Act.put, List.setIfInBounds_toArray, List.set_cons_zero, List.set_cons_succ, i64_w, i32_w]
      rfl
    refine pure_ (i := 3) (N := some 8) (v := ?_) (a' := ?_) #[true, true, true, true, false, false, false, false, false, false, false, false, false, false, false] rfl rfl (by kernel_rfl) (fun _ _ _ h => h) (Or.inl ⟨by rfl, ?_⟩) ?_ ?_
    rotate_left
    · intro w'
      go_simp
      with_reducible rfl
    rotate_left
    · simp only [Act.put, List.setIfInBounds_toArray, List.set_cons_zero, List.set_cons_succ, i64_w, i32_w]
      rfl
    refine pure_ (i := 5) (N := some 10) (v := ?_) (a' := ?_) #[true, true, true, true, false, true, false, false, false, false, false, false, false, false, false] rfl rfl (by kernel_rfl) (fun _ _ _ h => h) (Or.inl ⟨by rfl, ?_⟩) ?_ ?_
    rotate_left
    · intro w'
      go_simp
      with_reducible rfl
    rotate_left
    · simp only [Act.put, List.setIfInBounds_toArray, List.set_cons_zero, List.set_cons_succ, i64_w, i32_w]
      rfl
    refine pure_ (i := 6) (N := some 11) (v := ?_) (a' := ?_) #[true, true, true, true, false, true, true, false, false, false, false, false, false, false, false] rfl rfl (by kernel_rfl) (fun _ _ _ h => h) (Or.inl ⟨by rfl, ?_⟩) ?_ ?_
    rotate_left
    · intro w'
      go_simp
      with_reducible rfl
    rotate_left
    · simp only [Act.put, List.setIfInBounds_toArray, List.set_cons_zero, List.set_cons_succ, i64_w, i32_w]
      rfl
    refine pure_ (i := 7) (N := some 12) (v := ?_) (a' := ?_) #[true, true, true, true, false, true, true, true, false, false, false, false, false, false, false] rfl rfl (by kernel_rfl) (fun _ _ _ h => h) (Or.inl ⟨by rfl, ?_⟩) ?_ ?_
    rotate_left
    · intro w'
      go_simp
      with_reducible rfl
    rotate_left
    · simp only [Act.put, List.setIfInBounds_toArray, List.set_cons_zero, List.set_cons_succ, i64_w, i32_w]
      rfl
    refine pure_ (i := 10) (N := some 15) (v := ?_) (a' := ?_) #[true, true, true, true, false, true, true, true, false, false, true, false, false, false, false] rfl rfl (by kernel_rfl) (fun _ _ _ h => h) (Or.inl ⟨by rfl, ?_⟩) ?_ ?_
    rotate_left
    · intro w'
      go_simp
      with_reducible rfl
    rotate_left
    · simp only [Act.put, List.setIfInBounds_toArray, List.set_cons_zero, List.set_cons_succ, i64_w, i32_w]
      rfl
    refine take_ (i := 4) (N := some 9) (v := ?_) (a' := ?_) #[true, true, true, true, true, true, true, true, false, false, true, false, false, false, false] rfl rfl (by kernel_rfl) (fun _ _ _ h => h) (Or.inl ⟨by rfl, ?_⟩) hHeld ?_ ?_
    rotate_left
    · intro w' s0
      go_simp
      with_reducible rfl
    rotate_left
    · simp only [Act.put, List.setIfInBounds_toArray, List.set_cons_zero, List.set_cons_succ, i64_w, i32_w]
      rfl
    refine one_ (i := 8) (N := some 13) #[true, true, true, true, true, true, true, true, true, false, true, false, false, false, false] rfl rfl (by kernel_rfl) (by decide) (fun K hK => ?_)
    refine goes_ Try.func82 (by kernel_rfl) rfl #[.int .u64 ((s.size : Int)), .int .i64 2] (by rfl) rfl rfl (by simp only [List.map_toArray, List.map_cons, List.map_nil]; rfl) ?_
    with_reducible refine (low2_any _ _ (by omega) (by omega)).mono ?_
    rintro e w3 ⟨bL, rfl, hBL, hge, hb3⟩
    refine ⟨_, rfl, ?_⟩
    have hbL := below_step (Below.refl w.heap.size w).drew hb3
    have hB3 := (hB.dr).be hb3
    have hO3 := (hO.drew).below hb3
    have c3 := hB3.c; have l3 := hB3.lt; have f3 := hB3.f
    refine hK.out _ _ ((pw_cell_below hb3 hHeld)) (fun hHeld => ?_)
    clear hK K
    refine norm_ (a' := ?_) ?_ ?_
    rotate_left
    · show Act.put _ (some 13) _ = _
      simp only [Act.put, List.setIfInBounds_toArray, List.set_cons_zero, List.set_cons_succ, i64_w, i32_w]
      rfl
    refine one_ (i := 9) (N := some 14) #[true, true, true, true, true, true, true, true, true, true, true, false, false, false, false] rfl rfl (by kernel_rfl) (by decide) (fun K hK => ?_)
    obtain ⟨i0, hi0, hz0, hz1, hz2⟩ := info_parts info5o
    have hRd : Reads w3 w3.heap.size 1 (some ⟨bL, 0, none⟩) 2 (nums8 (lowI 2 ((s.size : Int)))) := ⟨by simp [nums8, lowI_len], fun _ => ⟨_, rfl, hBL.lt, fun j u hu => by rw [Kp.add_plain', Nat.zero_add, hBL.c]; simpa [lcells, nums8] using hu⟩⟩
    refine step_append_any w3 rfl (.tmp 9) (.tmp 13) 64 rfl base 5 i0 (.int .u8 0) 1 1 Try.underlying64 hi0 hz0 hz1 hz2 rfl (by decide) (.slice A0 bs.length c0) bs.length (bs.flatMap l8o) (by rfl) hO3 w3.heap.size (some ⟨bL, 0, none⟩) 2 2 (nums8 (lowI 2 ((s.size : Int)))) (by rfl) hRd (nums8_one _) (by simp only [maxLen]; omega) (by omega) (by have := hbL.size; omega) ?_
    intro v4 w4 ho4 hg4 hat4
    have hO4 := own_nums (xs := bs) (ys := lowI 2 ((s.size : Int))) (by rw [lowI_len]; exact ho4)
    obtain ⟨zs4, hz4⟩ : ∃ z, z = bs ++ lowI 2 ((s.size : Int)) := ⟨_, rfl⟩
    rw [← hz4] at hO4
    have HZ4 := hidI hz4
    have hzl4 : zs4.length = bs.length + 2 := by rw [hz4, List.length_append, lowI_len]
    have HZL4 := hidI hzl4
    clear hz4 hzl4
    obtain ⟨A4, c4, rfl, _⟩ := hO4.slice_
    have NG3 := own_nbo hO3 hB3 (by decide)
    have hB4 : Blk w4 g #[.slice A0 bs.length c0, .bool bad] 66 := Blk.gb hB3 hg4 (Ne.symm NG3)
    have c4' := hB4.c; have l4 := hB4.lt; have f4 := hB4.f
    refine hK.out _ _ ((gcell hg4 NG3 hHeld)) (fun hHeld => ?_)
    clear hK K
    refine norm_ (a' := ?_) ?_ ?_
    rotate_left
    · show Act.put _ (some 14) _ = _
      simp only [Act.put, List.setIfInBounds_toArray, List.set_cons_zero, List.set_cons_succ, i64_w, i32_w]
      rfl
    refine one_ (i := 11) (N := some 16) #[true, true, true, true, true, true, true, true, true, true, true, true, false, false, false] rfl rfl (by kernel_rfl) (by decide) (fun K hK => ?_)
    refine step_append_str w4 rfl (.tmp 14) (.tmp 15) 64 9 rfl base 5 i0 Try.underlying64 Try.underlying9 hi0 hz0 hz1 hz2 (.slice A4 zs4.length c4) zs4.length (zs4.flatMap l8o) (by rfl) hO4 s (by rfl) (by simp only [maxLen]; rw [HZL4.out]; omega) (by rw [HZL4.out]; omega) (by have h1 := hbL.size; have h2 := hg4.size; omega) ?_
    intro v5 w5 ho5 hg5
    have hO5 := own_str ho5
    obtain ⟨zs5, hz5⟩ : ∃ z, z = zs4 ++ bn s := ⟨_, rfl⟩
    rw [← hz5] at hO5
    have HZ5 := hidI hz5
    clear hz5
    obtain ⟨A5, c5, rfl, _⟩ := hO5.slice_
    have NG4 := own_nbo hO4 hB4 (by decide)
    have hB5 : Blk w5 g #[.slice A0 bs.length c0, .bool bad] 66 := Blk.gb hB4 hg5 (Ne.symm NG4)
    have c5' := hB5.c; have l5 := hB5.lt; have f5 := hB5.f
    refine hK.out _ _ ((gcell hg5 NG4 hHeld)) (fun hHeld => ?_)
    clear hK K
    refine norm_ (a' := ?_) ?_ ?_
    rotate_left
    · show Act.put _ (some 16) _ = _
      simp only [Act.put, List.setIfInBounds_toArray, List.set_cons_zero, List.set_cons_succ, i64_w, i32_w]
      rfl
    refine pure_ (i := 12) (N := some 17) (v := ?_) (a' := ?_) #[true, true, true, true, true, true, true, true, true, true, true, true, true, false, false] rfl rfl (by kernel_rfl) (fun _ _ _ h => h) (Or.inl ⟨by rfl, ?_⟩) ?_ ?_
    rotate_left
    · intro w'
      go_simp
      with_reducible rfl
    rotate_left
    · simp only [Act.put, List.setIfInBounds_toArray, List.set_cons_zero, List.set_cons_succ, i64_w, i32_w]
      rfl
    refine pure_ (i := 13) (N := some 18) (v := ?_) (a' := ?_) #[true, true, true, true, true, true, true, true, true, true, true, true, true, true, false] rfl rfl (by kernel_rfl) (fun _ _ _ h => h) (Or.inl ⟨by rfl, ?_⟩) ?_ ?_
    rotate_left
    · intro w'
      go_simp
      with_reducible rfl
    rotate_left
    · simp only [Act.put, List.setIfInBounds_toArray, List.set_cons_zero, List.set_cons_succ, i64_w, i32_w]
      rfl
    refine last_ (i := 14) (N := none) #[true, true, true, true, true, true, true, true, true, true, true, true, true, true, true] rfl rfl (by kernel_rfl) (by decide) (fun K hK => ?_)
    refine skip_ (w1 := ?_) (by rfl) rfl ?_ ?_
    rotate_left
    · go_simp
      rfl
    refine hK.out _ _ ?_
    clear hK K
    refine done_ (by kernel_rfl) ?_
    have hfin : Hid (WP base g (.slice A0 bs.length c0) (bs ++ lowI 2 (s.size : Int) ++ bn s) bad w (.returned (.pointer (some ⟨g, 0, none⟩))) (w5.setCell ⟨g, 0, none⟩ (.slice A5 zs5.length c5))) :=
      ⟨_, rfl, ⟨(hB5.st 0 _).of rfl, by rw [← HZ4.out, ← HZ5.out]; exact hO5.far (p := ⟨g, 0, none⟩) (own_nbo hO5 hB5 (by decide)) _⟩, Fr.setCell (S := fun k => k = g ∨ (Value.slice A0 bs.length c0).ownBlock = some k) (p := ⟨g, 0, none⟩) (((Fr.of_below hbL).grown hg4 (fun b h _ => Or.inr h)).grown hg5 (fun b h hlt => by
        rcases hat4 with e | e
        · rw [e] at h; exact Or.inr h
        · rw [e] at h; injection h with h; have := hbL.size; omega)) (fun _ => Or.inl rfl) _⟩
    generalize w5.setCell ⟨g, 0, none⟩ _ = w7 at *
    clear hO4 hB4 c4' l4 f4 hg4 ho4 hat4 hB3 hO3 c3 l3 f3 hB hO c0' l0 hBL hb3 hbL hO5 hB5 c5' l5 f5 hg5 ho5
    go_wp2
    go_ret
    exact hend.out _ hfin.out
end Go.Proofs.Ytliacfjdenfldaa
