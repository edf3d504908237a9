import Derived.Test.YtliacfjdenfldaaGb
namespace Go.Proofs.Ytliacfjdenfldaa
open Go.RowKit Go.Proofs.Kq
open Go.Proofs.YtliacfjdenfldaaW.PrintWords (pw_cell_below step_append_cells print_append_cells Kd Kd.C Kd.C_below)
open Go.Proofs.YtliacfjdenfldaaW.PrintLast
set_option linter.unusedSimpArgs false
set_option linter.unusedVariables false

/-- does a choice decline? -/
def dec (c : Int) : Bool := c == 3 || c == 4 || c == 7
set_option maxHeartbeats 1000000 in
theorem declines_any (c : Int) (w : World) : Calls Try.prog 100 #[.int .u8 c] w fun e w' => e = .returned (.bool (dec c)) ∧ w = w' := by
  by_cases c3 : c = 3
  · subst c3
    go_enter Try.func100, Try.ntmps100
    go_wp2
    go_ret
    exact ⟨rfl, rfl⟩
  by_cases c4 : c = 4
  · subst c4
    go_enter Try.func100, Try.ntmps100
    go_wp2
    go_ret
    exact ⟨rfl, rfl⟩
  have h3 : (c == 3) = false := by simpa using c3
  have h4 : (c == 4) = false := by simpa using c4
  have hd : Hid (dec c = (c == 7)) := by show _ = _; simp [dec, h3, h4]
  clear c3 c4
  go_enter Try.func100, Try.ntmps100
  go_wp2
  go_ret
  exact ⟨ret_bool hd.out.symm, rfl⟩

/-- a gateway in memory: its block, its two rows -/
structure Gt (w : World) (base g : Nat) (vr vl : Value) (recs : List A98) (late : List A102) : Prop where
  blk : Blk w g #[vr, vl] 90
  rec_ : Own A98.l 5 98 w base vr recs
  lat : Own A102.l 3 102 w base vl late

def sRecs (key kd pa cu : ByteArray) (am c : Int) (recs : List A98) : List A98 :=
  if fidx key 0 recs < 0 ∧ kd.toList = [112, 97, 121] then recs ++ [⟨key, pa, cu, am, !dec c⟩] else recs
def sMoved (key : ByteArray) (c : Int) (recs : List A98) : Bool := if fidx key 0 recs < 0 then !dec c else (recs.getD (fidx key 0 recs).toNat ⟨⟨#[]⟩, ⟨#[]⟩, ⟨#[]⟩, 0, false⟩).f4
def kUnknown : ByteArray := ⟨#[117, 110, 107, 110, 111, 119, 110]⟩
def kAccepted : ByteArray := ⟨#[97, 99, 99, 101, 112, 116, 101, 100]⟩
def kDeclined : ByteArray := ⟨#[100, 101, 99, 108, 105, 110, 101, 100]⟩
def sKind (key kd : ByteArray) (c : Int) (recs : List A98) : ByteArray :=
  if fidx key 0 recs < 0 ∧ ¬ kd.toList = [112, 97, 121] then kUnknown else if sMoved key c recs = true then kAccepted else kDeclined

/-- what answer does -/
def AnsP (base g : Nat) (vr vl : Value) (key kd pa cu : ByteArray) (am att c : Int) (recs : List A98) (late : List A102) (w : World) (e : Ending) (w' : World) : Prop :=
  e = .returned (.agg #[.string key, .string (sKind key kd c recs), .int .i64 att]) ∧ ∃ vr', Gt w' base g vr' vl (sRecs key kd pa cu am c recs) late ∧
    Fr (fun k => k = g ∨ vr.ownBlock = some k) w w' ∧ (∀ k, vr'.ownBlock = some k → vr.ownBlock = some k ∨ w.heap.size ≤ k)

theorem own98_at {w : World} {base b n c : Nat} {xs : List A98} (h : Own A98.l 5 98 w base (.slice (some ⟨b, 0, none⟩) n c) xs) (i : Nat) (hi : i < xs.length) (j : Nat) (v : Value) (hj : (A98.l xs[i])[j]? = some v) : w.cell? ⟨b, i * 5 + j, none⟩ = some v := by
  obtain ⟨A', c', hv, _, hC⟩ := own98 h
  obtain ⟨b', off, rfl, hx⟩ := Kp.C_open hC (by omega) (by decide)
  have hr := h.2
  rcases hr with ⟨h1, _⟩ | ⟨g, cap, cur, h1, _⟩
  · simp at h1
  · simp only [Value.slice.injEq, Option.some.injEq, Addr.mk.injEq, and_true] at h1 hv
    obtain ⟨⟨h2, h3⟩, _⟩ := hv
    have := hx i hi j v hj
    rw [← h2, ← h3, Nat.zero_add] at this
    exact this
theorem own102_at {w : World} {base b n c : Nat} {xs : List A102} (h : Own A102.l 3 102 w base (.slice (some ⟨b, 0, none⟩) n c) xs) (i : Nat) (hi : i < xs.length) (j : Nat) (v : Value) (hj : (A102.l xs[i])[j]? = some v) : w.cell? ⟨b, i * 3 + j, none⟩ = some v := by
  obtain ⟨A', c', hv, _, hC⟩ := own102 h
  obtain ⟨b', off, rfl, hx⟩ := Kp.C_open hC (by omega) (by decide)
  simp only [Value.slice.injEq, Option.some.injEq, Addr.mk.injEq, and_true] at hv
  obtain ⟨⟨h2, h3⟩, _⟩ := hv
  have := hx i hi j v hj
  rw [← h2, ← h3, Nat.zero_add] at this
  exact this
theorem res89 {wf : World} {rb : Nat} {x y z : Value} {t : Array Value} (h : Blk wf rb #[x, y, z] 102) (hx : x.oneCell' = true) (hy : y.oneCell' = true) (hz : z.oneCell' = true) (h6 : t[6]? = some (.pointer (some ⟨rb, 0, none⟩))) : (results Try.f89 t).run Try.prog wf = .ok (.agg #[x, y, z]) wf := by
  have c := h.c; have l := h.lt
  simp [results, Try.results89, go_sem, c, l, h6]
theorem sk_new {key kd : ByteArray} {c : Int} {recs : List A98} (h : fidx key 0 recs = -1) (hk : kd.toList = [112, 97, 121]) : sKind key kd c recs = if dec c = true then kDeclined else kAccepted := by
  cases hd : dec c <;> simp [sKind, sMoved, h, hk, hd]
set_option maxRecDepth 100000 in
set_option maxHeartbeats 2000000 in
theorem answer_new (base g : Nat) (vr vl : Value) (key kd pa cu : ByteArray) (am att c : Int) (recs : List A98) (late : List A102) (w : World)
    (hG : Gt w base g vr vl recs late) (hb : base ≤ w.heap.size) (hl : recs.length ≤ 100000) (h0 : fidx key 0 recs = -1) (hk : kd.toList = [112, 97, 121]) :
    Calls Try.prog 89 #[.pointer (some ⟨g, 0, none⟩), .agg #[.string kd, .string key, .string pa, .string cu, .int .i64 am, .int .i64 att], .int .u8 c] w (AnsP base g vr vl key kd pa cu am att c recs late w) := by
  obtain ⟨hB, hR, hL⟩ := hG
  obtain ⟨A, cp, rfl, hcp, hC⟩ := own98 hR
  have H0 := hidI h0
  have c0 := hB.c; have l0 := hB.lt; have f0 := hB.f
  have HB := hidI hB
  clear h0 hB
  go_enter Try.func89, Try.ntmps89
  go_wp2_with fail
  refine (find_any g A recs cp vl key _ ((HB.out.al _).al _) (Kd.C_below hC (below_new (below_new (Below.refl _ _) _) _)) (by omega)).mono ?_
  rintro e w1 ⟨rfl, hb1⟩
  rw [H0.out]
  have B1 := Blk.be (w := w1) (b := g) ((HB.out.al _).al _) hb1
  have B2 := Blk.be (w := w1) (b := w.heap.size) (by repeat (first | (apply Blk.new'; (simp; done)) | apply Blk.al)) hb1
  have B3 := Blk.be (w := w1) (b := w.heap.size + 1) (by repeat (first | (apply Blk.new'; (simp; done)) | apply Blk.al)) hb1
  have l3 := B3.lt
  have c1 := B1.c; have l1 := B1.lt; have f1 := B1.f
  have c2 := B2.c; have l2 := B2.lt; have f2 := B2.f
  clear c0 f0
  go_wp2
  have nb : (Value.slice A recs.length cp).ownBlock ≠ some w.heap.size := fun h => by have := hR.lt h; omega
  have ng : (Value.slice A recs.length cp).ownBlock ≠ some g := own_nb hR HB.out (by decide)
  have nb3 : (Value.slice A recs.length cp).ownBlock ≠ some (w.heap.size + 1) := fun h => by have := hR.lt h; omega
  have NB := hidI nb
  have NB3 := hidI nb3
  have hbw : Below w.heap.size w w1 := below_step (below_new (below_new (Below.refl _ _) _) _) hb1
  have NG := hidI ng
  have HR1 := (hR.alloc (.cells #[.string kd, .string key, .string pa, .string cu, .int .i64 am, .int .i64 att] 34)).alloc (.cells #[.string ⟨#[]⟩, .string ⟨#[]⟩, .int .i64 0] 102)
  have HR2 := HR1.below hb1
  have hbb : base ≤ w1.heap.size := by have := hb1.size; simp at this; omega
  clear nb ng nb3 HR1
  --REGION
  refine start_ (n := 22) (S := fun w' => w'.cell? ⟨g, 0, none⟩ = some (.slice A recs.length cp) ∧ w'.cell? ⟨w.heap.size, 1, none⟩ = some (.string key) ∧ w'.cell? ⟨w.heap.size, 2, none⟩ = some (.string pa) ∧ w'.cell? ⟨w.heap.size, 3, none⟩ = some (.string cu) ∧ w'.cell? ⟨w.heap.size, 4, none⟩ = some (.int .i64 am)) (ds := [21]) #[false, false, false, false, false, false, false, false, false, false, false, false, false, false, false, false, false, false, false, false, false, false] (by kernel_rfl) rfl rfl ⟨(by simp [c1]), (by simp [c2]), (by simp [c2]), (by simp [c2]), (by simp [c2])⟩ (fun hHeld => ?_)
  refine pure_ (i := 0) (N := some 24) (v := ?_) (a' := ?_) #[true, false, false, false, false, false, false, false, false, false, false, false, false, false, false, false, false, false, false, false, false, false] rfl rfl (by kernel_rfl) (fun _ _ _ h => h) (Or.inl ⟨by rfl, ?_⟩) ?_ ?_
  rotate_left
  · intro w'
    go_simp
    with_reducible rfl
  rotate_left
  · simp only [Act.put, List.setIfInBounds_toArray, List.set_cons_zero, List.set_cons_succ, i64_w, i32_w]
    rfl
  refine pure_ (i := 1) (N := some 25) (v := ?_) (a' := ?_) #[true, true, false, false, false, false, false, false, false, false, false, false, false, false, false, false, false, false, false, false, false, false] rfl rfl (by kernel_rfl) (fun _ _ _ h => h) (Or.inl ⟨by rfl, ?_⟩) ?_ ?_
  rotate_left
  · intro w'
    go_simp
    with_reducible rfl
  rotate_left
  · simp only [Act.put, List.setIfInBounds_toArray, List.set_cons_zero, List.set_cons_succ, i64_w, i32_w]
    rfl
  refine pure_ (i := 2) (N := some 26) (v := ?_) (a' := ?_) #[true, true, true, false, false, false, false, false, false, false, false, false, false, false, false, false, false, false, false, false, false, false] rfl rfl (by kernel_rfl) (fun _ _ _ h => h) (Or.inl ⟨by rfl, ?_⟩) ?_ ?_
  rotate_left
  · intro w'
    go_simp
    with_reducible rfl
  rotate_left
  · simp only [Act.put, List.setIfInBounds_toArray, List.set_cons_zero, List.set_cons_succ, i64_w, i32_w]
    rfl
  refine pure_ (i := 3) (N := some 27) (v := ?_) (a' := ?_) #[true, true, true, true, false, false, false, false, false, false, false, false, false, false, false, false, false, false, false, false, false, false] rfl rfl (by kernel_rfl) (fun _ _ _ h => h) (Or.inl ⟨by rfl, ?_⟩) ?_ ?_
  rotate_left
  · intro w'
    go_simp
    with_reducible rfl
  rotate_left
  · simp only [Act.put, List.setIfInBounds_toArray, List.set_cons_zero, List.set_cons_succ, i64_w, i32_w]
    rfl
  refine pure_ (i := 5) (N := some 29) (v := ?_) (a' := ?_) #[true, true, true, true, false, true, false, false, false, false, false, false, false, false, false, false, false, false, false, false, false, false] rfl rfl (by kernel_rfl) (fun _ _ _ h => h) (Or.inl ⟨by rfl, ?_⟩) ?_ ?_
  rotate_left
  · intro w'
    go_simp
    with_reducible rfl
  rotate_left
  · simp only [Act.put, List.setIfInBounds_toArray, List.set_cons_zero, List.set_cons_succ, i64_w, i32_w]
    rfl
  refine pure_ (i := 7) (N := some 31) (v := ?_) (a' := ?_) #[true, true, true, true, false, true, false, true, false, false, false, false, false, false, false, false, false, false, false, false, false, false] rfl rfl (by kernel_rfl) (fun _ _ _ h => h) (Or.inl ⟨by rfl, ?_⟩) ?_ ?_
  rotate_left
  · intro w'
    go_simp
    with_reducible rfl
  rotate_left
  · simp only [Act.put, List.setIfInBounds_toArray, List.set_cons_zero, List.set_cons_succ, i64_w, i32_w]
    rfl
  refine pure_ (i := 9) (N := some 33) (v := ?_) (a' := ?_) #[true, true, true, true, false, true, false, true, false, true, false, false, false, false, false, false, false, false, false, false, false, false] rfl rfl (by kernel_rfl) (fun _ _ _ h => h) (Or.inl ⟨by rfl, ?_⟩) ?_ ?_
  rotate_left
  · intro w'
    go_simp
    with_reducible rfl
  rotate_left
  · simp only [Act.put, List.setIfInBounds_toArray, List.set_cons_zero, List.set_cons_succ, i64_w, i32_w]
    rfl
  refine pure_ (i := 11) (N := some 35) (v := ?_) (a' := ?_) #[true, true, true, true, false, true, false, true, false, true, false, true, false, false, false, false, false, false, false, false, false, false] rfl rfl (by kernel_rfl) (fun _ _ _ h => h) (Or.inl ⟨by rfl, ?_⟩) ?_ ?_
  rotate_left
  · intro w'
    go_simp
    with_reducible rfl
  rotate_left
  · simp only [Act.put, List.setIfInBounds_toArray, List.set_cons_zero, List.set_cons_succ, i64_w, i32_w]
    rfl
  refine pure_ (i := 13) (N := some 37) (v := ?_) (a' := ?_) #[true, true, true, true, false, true, false, true, false, true, false, true, false, true, false, false, false, false, false, false, false, false] rfl rfl (by kernel_rfl) (fun _ _ _ h => h) (Or.inl ⟨by rfl, ?_⟩) ?_ ?_
  rotate_left
  · intro w'
    go_simp
    with_reducible rfl
  rotate_left
  · simp only [Act.put, List.setIfInBounds_toArray, List.set_cons_zero, List.set_cons_succ, i64_w, i32_w]
    rfl
  refine take_ (i := 4) (N := some 28) (v := ?_) (a' := ?_) #[true, true, true, true, true, true, false, true, false, true, false, true, false, true, false, false, false, false, false, false, false, false] rfl rfl (by kernel_rfl) (fun _ _ _ h => h) (Or.inl ⟨by rfl, ?_⟩) hHeld ?_ ?_
  rotate_left
  · rintro w' ⟨s0, s1, s2, s3, s4⟩
    go_simp
    with_reducible rfl
  rotate_left
  · simp only [Act.put, List.setIfInBounds_toArray, List.set_cons_zero, List.set_cons_succ, i64_w, i32_w]
    rfl
  refine take_ (i := 6) (N := some 30) (v := ?_) (a' := ?_) #[true, true, true, true, true, true, true, true, false, true, false, true, false, true, false, false, false, false, false, false, false, false] rfl rfl (by kernel_rfl) (fun _ _ _ h => h) (Or.inl ⟨by rfl, ?_⟩) hHeld ?_ ?_
  rotate_left
  · rintro w' ⟨s0, s1, s2, s3, s4⟩
    go_simp
    with_reducible rfl
  rotate_left
  · simp only [Act.put, List.setIfInBounds_toArray, List.set_cons_zero, List.set_cons_succ, i64_w, i32_w]
    rfl
  refine take_ (i := 8) (N := some 32) (v := ?_) (a' := ?_) #[true, true, true, true, true, true, true, true, true, true, false, true, false, true, false, false, false, false, false, false, false, false] rfl rfl (by kernel_rfl) (fun _ _ _ h => h) (Or.inl ⟨by rfl, ?_⟩) hHeld ?_ ?_
  rotate_left
  · rintro w' ⟨s0, s1, s2, s3, s4⟩
    go_simp
    with_reducible rfl
  rotate_left
  · simp only [Act.put, List.setIfInBounds_toArray, List.set_cons_zero, List.set_cons_succ, i64_w, i32_w]
    rfl
  refine take_ (i := 10) (N := some 34) (v := ?_) (a' := ?_) #[true, true, true, true, true, true, true, true, true, true, true, true, false, true, false, false, false, false, false, false, false, false] rfl rfl (by kernel_rfl) (fun _ _ _ h => h) (Or.inl ⟨by rfl, ?_⟩) hHeld ?_ ?_
  rotate_left
  · rintro w' ⟨s0, s1, s2, s3, s4⟩
    go_simp
    with_reducible rfl
  rotate_left
  · simp only [Act.put, List.setIfInBounds_toArray, List.set_cons_zero, List.set_cons_succ, i64_w, i32_w]
    rfl
  refine take_ (i := 12) (N := some 36) (v := ?_) (a' := ?_) #[true, true, true, true, true, true, true, true, true, true, true, true, true, true, false, false, false, false, false, false, false, false] rfl rfl (by kernel_rfl) (fun _ _ _ h => h) (Or.inl ⟨by rfl, ?_⟩) hHeld ?_ ?_
  rotate_left
  · rintro w' ⟨s0, s1, s2, s3, s4⟩
    go_simp
    with_reducible rfl
  rotate_left
  · simp only [Act.put, List.setIfInBounds_toArray, List.set_cons_zero, List.set_cons_succ, i64_w, i32_w]
    rfl
  refine one_ (i := 14) (N := some 38) #[true, true, true, true, true, true, true, true, true, true, true, true, true, true, true, false, false, false, false, false, false, false] rfl rfl (by kernel_rfl) (by decide) (fun K hK => ?_)
  refine goes_ Try.func100 (by kernel_rfl) rfl #[.int .u8 c] (by rfl) rfl rfl (by simp only [List.map_toArray, List.map_cons, List.map_nil]; rfl) ?_
  with_reducible refine (declines_any c _).mono ?_
  rintro e w3 ⟨rfl, rfl⟩
  refine ⟨_, rfl, ?_⟩
  refine hK.out _ _ ⟨hHeld.1, hHeld.2.1, hHeld.2.2.1, hHeld.2.2.2.1, hHeld.2.2.2.2⟩ (fun hHeld => ?_)
  clear hK K
  refine norm_ (a' := ?_) ?_ ?_
  rotate_left
  · show Act.put _ (some 38) _ = _
    simp only [Act.put, List.setIfInBounds_toArray, List.set_cons_zero, List.set_cons_succ, i64_w, i32_w]
    rfl
  refine pure_ (i := 15) (N := some 39) (v := ?_) (a' := ?_) #[true, true, true, true, true, true, true, true, true, true, true, true, true, true, true, true, false, false, false, false, false, false] rfl rfl (by kernel_rfl) (fun _ _ _ h => h) (Or.inl ⟨by rfl, ?_⟩) ?_ ?_
  rotate_left
  · intro w'
    go_simp
    with_reducible rfl
  rotate_left
  · simp only [Act.put, List.setIfInBounds_toArray, List.set_cons_zero, List.set_cons_succ, i64_w, i32_w]
    rfl
  refine pure_ (i := 16) (N := some 40) (v := ?_) (a' := ?_) #[true, true, true, true, true, true, true, true, true, true, true, true, true, true, true, true, true, false, false, false, false, false] rfl rfl (by kernel_rfl) (fun _ _ _ h => h) (Or.inl ⟨by rfl, ?_⟩) ?_ ?_
  rotate_left
  · intro w'
    go_simp
    with_reducible rfl
  rotate_left
  · simp only [Act.put, List.setIfInBounds_toArray, List.set_cons_zero, List.set_cons_succ, i64_w, i32_w]
    rfl
  refine one_ (i := 17) (N := some 41) #[true, true, true, true, true, true, true, true, true, true, true, true, true, true, true, true, true, true, false, false, false, false] rfl rfl (by kernel_rfl) (by decide) (fun K hK => ?_)
  refine value_ (w1 := ?_) (v := ?_) (by rfl) rfl ?_ ?_
  rotate_left 2
  · go_simp
    constructor
    · rfl
    · rfl
  refine hK.out _ _ ⟨(cell_alloc hHeld.1 _), (cell_alloc hHeld.2.1 _), (cell_alloc hHeld.2.2.1 _), (cell_alloc hHeld.2.2.2.1 _), (cell_alloc hHeld.2.2.2.2 _)⟩ (fun hHeld => ?_)
  clear hK K
  refine norm_ (a' := ?_) ?_ ?_
  rotate_left
  · show Act.put _ (some 41) _ = _
    simp only [Act.put, List.setIfInBounds_toArray, List.set_cons_zero, List.set_cons_succ, i64_w, i32_w]
    rfl
  refine one_ (i := 18) (N := some 42) #[true, true, true, true, true, true, true, true, true, true, true, true, true, true, true, true, true, true, true, false, false, false] rfl rfl (by kernel_rfl) (by decide) (fun K hK => ?_)
  refine step_append_cells (w0 := w1.drew) (W := w1.drew) base (by rfl) (.tmp 28) (.tmp 41) 87 98 (.agg #[(.string ⟨#[]⟩), (.string ⟨#[]⟩), (.string ⟨#[]⟩), (.int .i64 0), (.bool false)]) 5 64 rfl Try.underlying87 info98 rfl (by decide) (by decide) (.slice A recs.length cp) recs.length (recs.flatMap A98.l) [.string key, .string pa, .string cu, .int .i64 am, .bool (!dec c)] (by rfl) (by rfl) rfl (by simp [Value.oneCell']) HR2.drew (Below.refl _ _) hbb (by omega) ?_
  intro v4 w4 ho4 hb4 hg4 hat4
  have hO4 := Own.snoc (p := (⟨key, pa, cu, am, !dec c⟩ : A98)) ho4
  obtain ⟨b4, c4, rfl⟩ : ∃ b4 c4, v4 = .slice (some ⟨b4, 0, none⟩) (recs.length + 1) c4 := by
    rcases hO4.cases_ with ⟨_, h⟩ | ⟨b, c, h, _⟩
    · simp at h
    · exact ⟨b, c, by simpa using h⟩
  have hB4 : Blk w4 g #[.slice A recs.length cp, vl] 90 := Blk.gb (B1.dr) hg4 (Ne.symm NG.out)
  have lB4 := hB4.lt; have fB4 := hB4.f; have cB4 := hB4.c
  refine hK.out _ _ ⟨(gcell hg4 NG.out (by simp [c1])), (gcell hg4 NB.out (by simp [c2])), (gcell hg4 NB.out (by simp [c2])), (gcell hg4 NB.out (by simp [c2])), (gcell hg4 NB.out (by simp [c2]))⟩ (fun hHeld => ?_)
  clear hK K
  refine norm_ (a' := ?_) ?_ ?_
  rotate_left
  · show Act.put _ (some 42) _ = _
    simp only [Act.put, List.setIfInBounds_toArray, List.set_cons_zero, List.set_cons_succ, i64_w, i32_w]
    rfl
  refine pure_ (i := 19) (N := some 43) (v := ?_) (a' := ?_) #[true, true, true, true, true, true, true, true, true, true, true, true, true, true, true, true, true, true, true, true, false, false] rfl rfl (by kernel_rfl) (fun _ _ _ h => h) (Or.inl ⟨by rfl, ?_⟩) ?_ ?_
  rotate_left
  · intro w'
    go_simp
    with_reducible rfl
  rotate_left
  · simp only [Act.put, List.setIfInBounds_toArray, List.set_cons_zero, List.set_cons_succ, i64_w, i32_w]
    rfl
  refine pure_ (i := 20) (N := some 44) (v := ?_) (a' := ?_) #[true, true, true, true, true, true, true, true, true, true, true, true, true, true, true, true, true, true, true, true, true, false] rfl rfl (by kernel_rfl) (fun _ _ _ h => h) (Or.inl ⟨by rfl, ?_⟩) ?_ ?_
  rotate_left
  · intro w'
    go_simp
    with_reducible rfl
  rotate_left
  · simp only [Act.put, List.setIfInBounds_toArray, List.set_cons_zero, List.set_cons_succ, i64_w, i32_w]
    rfl
  refine last_ (i := 21) (N := none) #[true, true, true, true, true, true, true, true, true, true, true, true, true, true, true, true, true, true, true, true, true, true] rfl rfl (by kernel_rfl) (by decide) (fun K hK => ?_)
  refine skip_ (w1 := ?_) (by rfl) rfl ?_ ?_
  rotate_left
  · go_simp
    rfl
  refine hK.out _ _ ?_
  clear hK K
  refine done_ (by kernel_rfl) ?_
  have hF4 : Fr (fun k => k = g ∨ (Value.slice A recs.length cp).ownBlock = some k) w w4 := ((Fr.of_below hbw).drew).grown hg4 (fun b h _ => Or.inr h)
  have hAT : ∀ k, (Value.slice (some ⟨b4, 0, none⟩) (recs.length + 1) c4).ownBlock = some k → (Value.slice A recs.length cp).ownBlock = some k ∨ w.heap.size ≤ k := by
    intro k hk
    rcases hat4 with h | ⟨b, h, h2⟩
    · exact Or.inl (h ▸ hk)
    · rw [h] at hk; cases hk; exact Or.inr (Nat.le_trans hbw.size h2)
  have nb4 : (Value.slice (some ⟨b4, 0, none⟩) (recs.length + 1) c4).ownBlock ≠ some g := own_nb hO4 hB4 (by decide)
  have q4 : w4.cell? ⟨b4, recs.length * 5 + 4, none⟩ = some (.bool (!dec c)) := by
    have := own98_at hO4 recs.length (by simp) 4 (.bool (!dec c)) (by simp [A98.l])
    exact this
  have hO5 := hO4.far (p := ⟨g, 0, none⟩) nb4 (.slice (some ⟨b4, 0, none⟩) (recs.length + 1) c4)
  have hL5 : Own A102.l 3 102 (w4.setCell ⟨g, 0, none⟩ (.slice (some ⟨b4, 0, none⟩) (recs.length + 1) c4)) base vl late := (hL.fr hF4 (fun k hk h => by
    rcases h with rfl | h
    · exact own_nb hL HB.out (by decide) hk
    · exact hL.ne_own hR (by decide) k hk h)).far (p := ⟨g, 0, none⟩) (own_nb hL HB.out (by decide)) _
  have hB5 : Blk (w4.setCell ⟨g, 0, none⟩ (.slice (some ⟨b4, 0, none⟩) (recs.length + 1) c4)) g #[(.slice (some ⟨b4, 0, none⟩) (recs.length + 1) c4), vl] 90 := (hB4.st 0 _).of rfl
  have hB25 : Blk (w4.setCell ⟨g, 0, none⟩ (.slice (some ⟨b4, 0, none⟩) (recs.length + 1) c4)) w.heap.size _ _ := (Blk.gb (B2.dr) hg4 (Ne.symm NB.out)).so (by simp; omega)
  have hB35 : Blk (w4.setCell ⟨g, 0, none⟩ (.slice (some ⟨b4, 0, none⟩) (recs.length + 1) c4)) (w.heap.size + 1) _ _ := (Blk.gb (B3.dr) hg4 (Ne.symm NB3.out)).so (by simp; omega)
  have q5 : (w4.setCell ⟨g, 0, none⟩ (.slice (some ⟨b4, 0, none⟩) (recs.length + 1) c4)).cell? ⟨b4, recs.length * 5 + 4, none⟩ = some (.bool (!dec c)) := by
    rw [World.cell?_setCell_other _ _ _ _ (by intro h; injection h with h1 _ _; exact nb4 (by rw [← h1]; rfl))]; exact q4
  have hF5 : Fr (fun k => k = g ∨ (Value.slice A recs.length cp).ownBlock = some k) w (w4.setCell ⟨g, 0, none⟩ (.slice (some ⟨b4, 0, none⟩) (recs.length + 1) c4)) := hF4.setCell (fun _ => Or.inl rfl) _
  have HA5 : Hid ((Value.slice (some ⟨b4, 0, none⟩) (recs.length + 1) c4).ownBlock ≠ none) := by show _ ≠ _; simp [Value.ownBlock]
  generalize w4.setCell ⟨g, 0, none⟩ (.slice (some ⟨b4, 0, none⟩) (recs.length + 1) c4) = w5 at *
  clear hO4 ho4 hb4 hg4 hat4 hB4 lB4 fB4 cB4 q4 hF4 nb4
  have c5 := hB25.c; have l5 := hB25.lt
  have c6 := hB35.c; have l6 := hB35.lt; have f6 := hB35.f
  have c7 := hB5.c
  cases hd : dec c
  all_goals
    try rw [hd] at q5
    have HD := hidI hd
    clear hd
    go_wp2
    have hBf := ((hB35.st 0 (.string key)).st 1 (.string (sKind key kd c recs))).st 2 (.int .i64 att)
    rw [sk_new H0.out hk, HD.out] at hBf
    refine bodyPost_ret (v := .agg #[.string key, .string (sKind key kd c recs), .int .i64 att]) (by
      rw [sk_new H0.out hk, HD.out]
      exact res89 hBf rfl rfl rfl rfl) rfl ?_
    rw [HD.out] at hO5
    refine ⟨rfl, _, ⟨((hB5.so (by simp; omega)).so (by simp; omega)).so (by simp; omega), ?_, ?_⟩, ((hF5.setCell (by simp; omega) _).setCell (by simp; omega) _).setCell (by simp; omega) _, hAT⟩
    · have e : sRecs key kd pa cu am c recs = recs ++ [⟨key, pa, cu, am, !dec c⟩] := by simp [sRecs, H0.out, hk]
      rw [e, HD.out]
      have nb := own_nb hO5 hB35 (by decide)
      exact ((hO5.far (p := ⟨_, 0, none⟩) nb _).far (p := ⟨_, 1, none⟩) nb _).far (p := ⟨_, 2, none⟩) nb _
    · have nb : vl.ownBlock ≠ some (w.heap.size + 1) := fun h => by have := hL.lt h; omega
      exact ((hL5.far (p := ⟨_, 0, none⟩) nb _).far (p := ⟨_, 1, none⟩) nb _).far (p := ⟨_, 2, none⟩) nb _

end Go.Proofs.Ytliacfjdenfldaa
