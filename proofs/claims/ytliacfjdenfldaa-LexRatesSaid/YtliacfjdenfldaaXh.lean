/- lex: the tokens of any bytes (Tokens). -/
import Derived.Test.YtliacfjdenfldaaXg
import Derived.ScopeJumps
import Derived.WalkMore
import Derived.Outline
namespace Go.Proofs.Ytliacfjdenfldaa
open Go.RowKit Go.Proofs.Kq
open Go.Proofs.YtliacfjdenfldaaW.PrintWords (pw_cell_below step_append_cells print_append_cells Kd Kd.C Kd.C_below)
set_option linter.unusedSimpArgs false
set_option linter.unusedVariables false
theorem info59 : (Try.prog.info? 59).map (fun i => (i.zero, i.size, i.bytes)) = some (some (.agg #[.int .i64 0, .string ⟨#[]⟩, .int .i64 0, .int .i64 0]), 4, 40) := by kernel_rfl
/-- how many letters come -/
def nl (l : List Int) : Nat := (l.takeWhile isLet).length
theorem nl_le (l : List Int) : nl l ≤ l.length := by
  unfold nl; exact (List.takeWhile_prefix isLet).length_le
theorem nl_yes (l : List Int) (k : Nat) (h : k < nl l) : isLet (l[k]'(Nat.lt_of_lt_of_le h (nl_le l))) = true := by
  induction l generalizing k with
  | nil => simp [nl] at h
  | cons c l ih =>
    by_cases hc : isLet c = true
    · cases k with
      | zero => simpa using hc
      | succ k =>
        have h' : k < nl l := by simpa [nl, List.takeWhile_cons, hc] using h
        simpa using ih k h'
    · simp [nl, List.takeWhile_cons, hc] at h
theorem nl_no (l : List Int) (h : nl l < l.length) : isLet (l[nl l]'h) = false := by
  induction l with
  | nil => simp at h
  | cons c l ih =>
    by_cases hc : isLet c = true
    · have e : nl (c :: l) = nl l + 1 := by simp [nl, List.takeWhile_cons, hc]
      have h' : nl l < l.length := by rw [e] at h; simpa using h
      have := ih h'
      simp only [e, List.getElem_cons_succ]; exact this
    · have e : nl (c :: l) = 0 := by simp [nl, List.takeWhile_cons, hc]
      simp only [e, List.getElem_cons_zero]; simpa using hc
theorem numb_le (l : List Int) (t : A59) (n : Nat) (h : numb l = some (t, n)) : n ≤ l.length := by
  have h1 := figs_le l
  unfold numb at h
  simp only [] at h
  split at h
  · cases h
  · split at h
    · cases h; omega
    · rename_i hc
      split at h
      · cases h
      · simp only [Option.some.injEq, Prod.mk.injEq] at h
        obtain ⟨_, rfl⟩ := h
        have h37 : l.getD ((figs l).1 + (point (List.drop (figs l).1 l)).1) 0 = 37 := Classical.byContradiction fun h => hc (.inr (.inl h))
        by_cases hlt : (figs l).1 + (point (List.drop (figs l).1 l)).1 < l.length
        · omega
        · rw [List.getD_eq_getElem?_getD, List.getElem?_eq_none (by omega)] at h37; cases h37
inductive TS where
  | bad (e : Int)
  | go (t : Option A59) (j : Nat)
/-- what comes at i -/
def tokStep (l : List Int) (i : Nat) : TS :=
  let c := l.getD i 0
  if c = 32 ∨ c = 10 ∨ c = 9 then .go none (i + 1)
  else if c = 59 then .go (some ⟨3, ⟨#[59]⟩, 0, i⟩) (i + 1)
  else if isLet c = true then
    if 20 < nl (l.drop i) then .bad 2 else .go (some ⟨0, strOfNums ((l.drop i).take (nl (l.drop i))), 0, i⟩) (i + nl (l.drop i))
  else if isDig c = true then
    match numb (l.drop i) with
    | none => .bad 2
    | some (t, n) => if n = 0 then .bad 2 else .go (some ⟨t.f0, t.f1, t.f2, i⟩) (i + n)
  else .bad 3
/-- all tokens from i on, or where it is wrong, and how -/
def toks (l : List Int) (i : Nat) (acc : List A59) : Sum (List A59) (Nat × Int) :=
  if i < l.length then
    match tokStep l i with
    | .bad e => .inr (i, e)
    | .go t j => if i < j then toks l j (acc ++ t.toList) else .inr (i, 0)
  else .inl acc
termination_by l.length - i
def TokP (l : List Int) (w : World) (e : Ending) (w' : World) : Prop := Below w.heap.size w w' ∧
  match toks l 0 [] with
  | .inl xs => ∃ v, e = .returned (.tuple #[v, .int .i64 0, .int .i64 0]) ∧ Own A59.l 4 59 w' w.heap.size v xs
  | .inr (p, c) => e = .returned (.tuple #[.slice none 0 0, .int .i64 p, .int .i64 c])
def LongJ (w : World) (l : List Int) (a : Act) (w' : World) : Prop := ∃ (p : Nat) (u0 u1 u2 u3 u4 u5 u6 u7 u8 u9 u10 u11 u12 u13 u14 u15 u16 u17 u18 u19 u20 u21 u22 u23 u24 u25 u26 u27 u28 u29 u30 u31 u32 u33 u34 u35 u36 u37 u38 u39 u40 u41 u42 u43 u44 u45 u46 u47 u48 u49 u50 u51 u52 u53 u54 u55 u56 u57 u58 u59 u60 u61 u62 u63 u64 u65 u66 u67 u68 u69 u70 u71 u72 u73 u74 u75 u76 u77 u78 u79 u80 u81 u82 u83 u84 u85 u86 u87 u88 u89 u90 u91 u92 u93 : Value), a = { tmps := #[u0, u1, u2, u3, u4, u5, u6, u7, u8, u9, u10, u11, u12, u13, u14, u15, u16, u17, u18, u19, u20, u21, u22, u23, u24, u25, u26, u27, u28, u29, u30, u31, u32, u33, u34, u35, u36, u37, u38, u39, u40, u41, u42, u43, u44, u45, u46, u47, u48, u49, u50, u51, u52, u53, u54, u55, u56, u57, u58, u59, u60, u61, u62, u63, u64, u65, u66, u67, u68, u69, u70, u71, u72, u73, u74, u75, u76, u77, u78, u79, u80, u81, u82, u83, u84, u85, u86, u87, u88, u89, u90, u91, u92, u93], defers := [] } ∧ u7 = .int .i64 p ∧ toks l 0 [] = .inr (p, 2) ∧ Below w.heap.size w w'
theorem toks_end (l : List Int) (i : Nat) (acc : List A59) (h : l.length ≤ i) : toks l i acc = .inl acc := by
  rw [toks, if_neg (by omega)]
theorem toks_bad (l : List Int) (i : Nat) (acc : List A59) (c : Int) (h : i < l.length) (hs : tokStep l i = .bad c) : toks l i acc = .inr (i, c) := by
  rw [toks, if_pos h, hs]
theorem toks_go (l : List Int) (i : Nat) (acc : List A59) (t : Option A59) (j : Nat) (h : i < l.length) (hj : i < j) (hs : tokStep l i = .go t j) : toks l i acc = toks l j (acc ++ t.toList) := by
  rw [toks, if_pos h, hs]; simp only []; rw [if_pos hj]
set_option maxRecDepth 100000 in
set_option maxHeartbeats 4000000 in
theorem tokens_any (s : ByteArray) (w : World) (hs : s.size ≤ 1000000000) : Calls Try.prog 35 #[.string s] w (TokP (bn s) w) := by
  go_enter Try.func35, Try.ntmps35
  go_wp2
  refine wp_scope_jumps 1 (LongJ w (bn s)) (fun a' _ => 0) rfl ?_ ?_
  · go_wp2
    go_step3
    go_wp2
    go_loopw [5, 6, 7] (fun v i at_ wr => ∃ (k : Nat) (acc : List A59) (p : Nat), k ≤ s.size ∧ i = .int .i64 k ∧ at_ = .int .i64 p ∧ acc.length ≤ k ∧ Hid (toks (bn s) k acc = toks (bn s) 0 []) ∧ Hid (Own A59.l 4 59 wr w.heap.size v acc ∧ Below w.heap.size w wr)) (fun _ i _ _ => s.size - (intOf i).toNat)
    case atStart => exact ⟨0, [], 0, Nat.zero_le _, rfl, rfl, Nat.le_refl _, hidI rfl, hidI ⟨Own.nil _ _ _ _ _, Below.refl _ _⟩⟩
    case round =>
      obtain ⟨k, acc, p, hk, rfl, rfl, hacc, HT, HO⟩ := hrel
      by_cases hlt : k < s.size
      · have HC : Hid ((bn s).getD k 0 = (s[k].toNat : Int)) := bn_getD s k hlt
        have hbt := s[k].toNat_lt
        have hll : k < (bn s).length := by rw [bn_len]; exact hlt
        by_cases e32 : (s[k].toNat : Int) = 32
        · have HN : Hid (toks (bn s) (k + 1) acc = toks (bn s) 0 []) := by
            show _ = _
            rw [← HT.out, toks_go (bn s) k acc none (k + 1) hll (by omega) (by unfold tokStep; simp only [HC.out]; rw [if_pos (.inl e32)])]; simp
          clear HT
          go_wp2
          go_roundw
          case rel => exact ⟨k + 1, acc, k, by omega, by go_num, rfl, by omega, HN, HO⟩
          case measure => simp [intOf]; omega
        by_cases e10 : (s[k].toNat : Int) = 10
        · have HN : Hid (toks (bn s) (k + 1) acc = toks (bn s) 0 []) := by
            show _ = _
            rw [← HT.out, toks_go (bn s) k acc none (k + 1) hll (by omega) (by unfold tokStep; simp only [HC.out]; rw [if_pos (.inr (.inl e10))])]; simp
          clear HT
          go_wp2
          go_roundw
          case rel => exact ⟨k + 1, acc, k, by omega, by go_num, rfl, by omega, HN, HO⟩
          case measure => simp [intOf]; omega
        by_cases e9 : (s[k].toNat : Int) = 9
        · have HN : Hid (toks (bn s) (k + 1) acc = toks (bn s) 0 []) := by
            show _ = _
            rw [← HT.out, toks_go (bn s) k acc none (k + 1) hll (by omega) (by unfold tokStep; simp only [HC.out]; rw [if_pos (.inr (.inr e9))])]; simp
          clear HT
          go_wp2
          go_roundw
          case rel => exact ⟨k + 1, acc, k, by omega, by go_num, rfl, by omega, HN, HO⟩
          case measure => simp [intOf]; omega
        have nws : ¬ ((s[k].toNat : Int) = 32 ∨ (s[k].toNat : Int) = 10 ∨ (s[k].toNat : Int) = 9) := by omega
        have NWS := hidI nws
        have b32 : ((s[k].toNat : Int) == 32) = false := beq_eq_false_iff_ne.2 e32
        have b10 : ((s[k].toNat : Int) == 10) = false := beq_eq_false_iff_ne.2 e10
        have b9 : ((s[k].toNat : Int) == 9) = false := beq_eq_false_iff_ne.2 e9
        clear nws
        have hO := HO.out.1
        have hB := HO.out.2
        have HOO := hidI hO
        have HBB := hidI hB
        have hBs := hB.size
        clear hO hB
        by_cases e59 : (s[k].toNat : Int) = 59
        · have HN : Hid (toks (bn s) (k + 1) (acc ++ [⟨3, ⟨#[59]⟩, 0, k⟩]) = toks (bn s) 0 []) := by
            show _ = _
            rw [← HT.out, toks_go (bn s) k acc (some ⟨3, ⟨#[59]⟩, 0, k⟩) (k + 1) hll (by omega) (by unfold tokStep; simp only [HC.out]; rw [if_neg NWS.out, if_pos e59])]; rfl
          go_wp2_with (at_builtin; refine print_append_cells (w0 := w) (W := wr) w.heap.size rfl (.tmp 38) (.tmp 41) 54 59 (.agg #[.int .i64 0, .string ⟨#[]⟩, .int .i64 0, .int .i64 0]) 4 40 rfl Try.underlying54 info59 rfl (by decide) (by decide) u5 acc.length (acc.flatMap A59.l) [.int .i64 3, .string ⟨#[59]⟩, .int .i64 0, .int .i64 k] (by rfl) (by rfl) rfl (by simp [Value.oneCell']) HOO.out HBB.out HBB.out.size (by omega) ?_; intro v5 w5 ho5 hb5 hg5 hat5)
          have hO5 := hidI (And.intro (Own.snoc (p := (⟨3, ⟨#[59]⟩, 0, k⟩ : A59)) ho5) hb5)
          clear ho5 hb5 hg5 hat5 HT HO
          go_wp2
          go_roundw
          case rel => exact ⟨k + 1, _, k, by omega, by go_num, rfl, by simp; omega, HN, hO5⟩
          case measure => simp [intOf]; omega
        have b59 : ((s[k].toNat : Int) == 59) = false := beq_eq_false_iff_ne.2 e59
        by_cases el : isLet (s[k].toNat : Int) = true
        · have EL := hidI el
          clear el
          obtain ⟨q, hq⟩ : ∃ q, q = nl ((bn s).drop k) := ⟨_, rfl⟩
          have hnl1 : q ≤ s.size - k := by have := nl_le ((bn s).drop k); rw [List.length_drop, bn_len] at this; rw [hq]; exact this
          have hnl2 : Hid (∀ m (h : m < q) (h2 : k + m < s.size), isLet (((s[k + m]'h2).toNat : Int)) = true) := fun m h h2 => by
            have := nl_yes ((bn s).drop k) m (by rw [← hq]; exact h)
            rw [List.getElem_drop, bn_at s (k + m) (by omega)] at this; exact this
          have hnl3 : Hid (∀ (h : k + q < s.size), isLet (((s[k + q]'h).toNat : Int)) = false) := by
            show ∀ _, _
            intro h
            have := nl_no ((bn s).drop k) (by rw [List.length_drop, bn_len]; omega)
            rw [List.getElem_drop, bn_at s _ (by rw [← hq]; exact h)] at this
            simpa only [← hq] using this
          have HST : Hid (tokStep (bn s) k = if 20 < q then .bad 2 else .go (some ⟨0, strOfNums (((bn s).drop k).take q), 0, k⟩) (k + q)) := by
            show _ = _
            unfold tokStep; simp only [HC.out]; rw [if_neg NWS.out, if_neg e59, if_pos EL.out, ← hq]
          have hpos : 0 < q := by
            have h0 : (bn s).drop k = (bn s)[k]'hll :: (bn s).drop (k + 1) := (List.getElem_cons_drop (h := hll)).symm
            rw [hq]; unfold nl; rw [h0, List.takeWhile_cons, if_pos (by rw [bn_at s k hlt]; exact EL.out)]; simp
          clear hq
          go_wp2_with ((go_at_call 79; refine (letter_any _ _).mono ?_; rintro e w' ⟨rfl, rfl⟩; rw [EL.out]))
          obtain ⟨wo, rfl⟩ : ∃ wo : World, wo = wr := ⟨_, rfl⟩
          go_loop [6] (fun i => ∃ m : Nat, m ≤ q ∧ i = .int .i64 (k + m : Nat)) (fun i => k + q - (intOf i).toNat)
          case atStart => exact ⟨0, Nat.zero_le _, rfl⟩
          case round =>
            obtain ⟨m, hm, rfl⟩ := hrel
            by_cases hmq : m < q
            · have hks : k + m < s.size := by omega
              have H2 := hidI (hnl2.out m hmq hks)
              go_wp2_with ((go_at_call 79; refine (letter_any _ _).mono ?_; rintro e w' ⟨rfl, rfl⟩; rw [H2.out]))
              go_round
              case rel => exact ⟨m + 1, by omega, by go_num⟩
              case measure => simp [intOf]; omega
            · obtain rfl : m = q := by omega
              have HEX : Hid (s.extract k (k + m) = strOfNums (((bn s).drop k).take m)) := by
                have h1 : s.extract k (k + m) = (s.extract k s.size).extract 0 m := by
                  rw [ByteArray.extract_extract]; congr 1; omega
                show _ = _
                rw [h1, ext_take, bn_drop]
              have hlast : (k + m < s.size ∧ Hid (∀ h : k + m < s.size, isLet ((s[k + m]'h).toNat : Int) = false)) ∨ k + m = s.size := by
                by_cases h : k + m < s.size
                · exact .inl ⟨h, hnl3⟩
                · exact .inr (by omega)
              clear hnl2 hnl3
              by_cases h20 : 20 < m
              · have HL : Hid (LongJ w (bn s) = LongJ w (bn s)) := rfl
                have HN : Hid (toks (bn s) 0 [] = .inr (k, 2)) := by
                  show _ = _
                  rw [← HT.out, toks_bad (bn s) k acc 2 hll (by rw [HST.out, if_pos h20])]
                rcases hlast with ⟨h1, h2⟩ | h1
                · have H2 := hidI (h2.out h1)
                  go_wp2_with ((go_at_call 79; refine (letter_any _ _).mono ?_; rintro e w' ⟨rfl, rfl⟩; rw [H2.out]))
                  go_step3
                  refine ⟨rfl, ?_⟩
                  repeat apply Exists.intro
                  exact ⟨rfl, rfl, HN.out, HBB.out⟩
                · go_wp2
                  go_step3
                  refine ⟨rfl, ?_⟩
                  repeat apply Exists.intro
                  exact ⟨rfl, rfl, HN.out, HBB.out⟩
              · have HN : Hid (toks (bn s) (k + m) (acc ++ [⟨0, s.extract k (k + m), 0, k⟩]) = toks (bn s) 0 []) := by
                  show _ = _
                  rw [← HT.out, toks_go (bn s) k acc (some ⟨0, s.extract k (k + m), 0, k⟩) (k + m) hll (by omega) (by rw [HST.out, if_neg h20, HEX.out])]; rfl
                rcases hlast with ⟨h1, h2⟩ | h1
                · have H2 := hidI (h2.out h1)
                  go_wp2_with (first | (go_at_call 79; refine (letter_any _ _).mono ?_; rintro e w' ⟨rfl, rfl⟩; rw [H2.out]) | (at_builtin; refine print_append_cells (w0 := w) (W := wo) w.heap.size rfl (.tmp 62) (.tmp 69) 54 59 (.agg #[.int .i64 0, .string ⟨#[]⟩, .int .i64 0, .int .i64 0]) 4 40 rfl Try.underlying54 info59 rfl (by decide) (by decide) u5 acc.length (acc.flatMap A59.l) [.int .i64 0, .string (s.extract k (k + m)), .int .i64 0, .int .i64 k] (by rfl) (by rfl) rfl (by simp [Value.oneCell']) HOO.out HBB.out HBB.out.size (by omega) ?_; intro v5 w5 ho5 hb5 hg5 hat5))
                  have hO5 := hidI (And.intro (Own.snoc (p := (⟨0, s.extract k (k + m), 0, k⟩ : A59)) ho5) hb5)
                  clear ho5 hb5 hg5 hat5 HT HO
                  go_wp2
                  go_roundw
                  case rel => exact ⟨k + m, _, k, by omega, by go_num, rfl, by simp; omega, HN, hO5⟩
                  case measure => simp [intOf]; omega
                · have hge : ¬ (k + m < s.size) := by omega
                  have h1' := hidI h1
                  clear h1
                  go_wp2_with (at_builtin; refine print_append_cells (w0 := w) (W := wo) w.heap.size rfl (.tmp 62) (.tmp 69) 54 59 (.agg #[.int .i64 0, .string ⟨#[]⟩, .int .i64 0, .int .i64 0]) 4 40 rfl Try.underlying54 info59 rfl (by decide) (by decide) u5 acc.length (acc.flatMap A59.l) [.int .i64 0, .string (s.extract k (k + m)), .int .i64 0, .int .i64 k] (by rfl) (by rfl) rfl (by simp [Value.oneCell']) HOO.out HBB.out HBB.out.size (by omega) ?_; intro v5 w5 ho5 hb5 hg5 hat5)
                  have hO5 := hidI (And.intro (Own.snoc (p := (⟨0, s.extract k (k + m), 0, k⟩ : A59)) ho5) hb5)
                  clear ho5 hb5 hg5 hat5 HT HO
                  go_wp2
                  go_roundw
                  case rel => exact ⟨k + m, _, k, by omega, by go_num, rfl, by simp; omega, HN, hO5⟩
                  case measure => simp [intOf]; omega
        have EL := hidI (eq_false_of_ne_true el)
        clear el
        by_cases ed : isDig (s[k].toNat : Int) = true
        · have ED := hidI ed
          clear ed
          go_wp2_with (first | (go_at_call 79; refine (letter_any _ _).mono ?_; rintro e w' ⟨rfl, rfl⟩; rw [EL.out]) | (go_at_call 80; refine (digit_any _ _).mono ?_; rintro e w' ⟨rfl, rfl⟩; rw [ED.out]))
          refine (lexnum_any _ _ (by simp; omega)).mono ?_
          rintro e w1 ⟨hb1, he⟩
          rw [bn_drop] at he
          have HST : Hid (tokStep (bn s) k = match numb ((bn s).drop k) with
              | none => .bad 2
              | some (t, n) => if n = 0 then .bad 2 else .go (some ⟨t.f0, t.f1, t.f2, k⟩) (k + n)) := by
            show _ = _
            unfold tokStep; simp only [HC.out]; rw [if_neg NWS.out, if_neg e59, if_neg (by rw [EL.out]; decide), if_pos ED.out]
          have HBB1 := hidI (below_step HBB.out hb1)
          have HOO1 := hidI (HOO.out.below hb1)
          have hBs1 := hb1.size
          cases hnb : numb ((bn s).drop k) with
          | none =>
            rw [hnb] at he
            simp only [] at he
            subst he
            have HN : Hid (toks (bn s) 0 [] = .inr (k, 2)) := by
              show _ = _
              rw [← HT.out, toks_bad (bn s) k acc 2 hll (by rw [HST.out, hnb])]
            clear hnb hb1 HOO HBB
            go_wp2
            go_step3
            refine ⟨rfl, ?_⟩
            repeat apply Exists.intro
            exact ⟨rfl, rfl, HN.out, below_new HBB1.out _⟩
          | some tn =>
            obtain ⟨t, n⟩ := tn
            rw [hnb] at he
            simp only [] at he
            subst he
            have hnle := numb_le _ _ _ hnb
            rw [List.length_drop, bn_len] at hnle
            by_cases hn0 : n = 0
            · subst hn0
              have HN : Hid (toks (bn s) 0 [] = .inr (k, 2)) := by
                show _ = _
                rw [← HT.out, toks_bad (bn s) k acc 2 hll (by rw [HST.out, hnb]; rfl)]
              clear hnb hb1 HOO HBB
              go_wp2
              go_step3
              refine ⟨rfl, ?_⟩
              repeat apply Exists.intro
              exact ⟨rfl, rfl, HN.out, below_new HBB1.out _⟩
            · have HN : Hid (toks (bn s) (k + n) (acc ++ [⟨t.f0, t.f1, t.f2, k⟩]) = toks (bn s) 0 []) := by
                show _ = _
                rw [← HT.out, toks_go (bn s) k acc (some ⟨t.f0, t.f1, t.f2, k⟩) (k + n) hll (by omega) (by rw [HST.out, hnb]; simp only []; rw [if_neg hn0])]; rfl
              have hn0b : ((n : Int) == 0) = false := beq_eq_false_iff_ne.2 (by omega)
              clear hnb hb1 HOO HBB
              have HOA := hidI (HOO1.out.alloc (.cells #[.int .i64 t.f0, .string t.f1, .int .i64 t.f2, .int .i64 k] 59))
              have HBA := hidI (below_new HBB1.out (.cells #[.int .i64 t.f0, .string t.f1, .int .i64 t.f2, .int .i64 k] 59))
              go_wp2_with (at_builtin; refine print_append_cells (w0 := w) (W := (w1.alloc (.cells #[.int .i64 t.f0, .string t.f1, .int .i64 t.f2, .int .i64 k] 59))) w.heap.size rfl (.tmp 88) (.tmp 90) 54 59 (.agg #[.int .i64 0, .string ⟨#[]⟩, .int .i64 0, .int .i64 0]) 4 40 rfl Try.underlying54 info59 rfl (by decide) (by decide) u5 acc.length (acc.flatMap A59.l) [.int .i64 t.f0, .string t.f1, .int .i64 t.f2, .int .i64 k] (by rfl) (by first | (go_simp; done) | (go_simp; rfl)) rfl (by simp [Value.oneCell']) HOA.out HBA.out HBA.out.size (by omega) ?_; intro v5 w5 ho5 hb5 hg5 hat5)
              have hO5 := hidI (And.intro (Own.snoc (p := (⟨t.f0, t.f1, t.f2, k⟩ : A59)) ho5) hb5)
              clear ho5 hb5 hg5 hat5 HT HO HOA HBA HOO1 HBB1
              go_wp2
              go_roundw
              case rel => exact ⟨k + n, _, k, by omega, by go_num, rfl, by simp; omega, HN, hO5⟩
              case measure => simp [intOf]; omega
        · have ED := hidI (eq_false_of_ne_true ed)
          clear ed
          have HR : Hid (toks (bn s) 0 [] = .inr (k, 3)) := by
            show _ = _
            rw [← HT.out, toks_bad (bn s) k acc 3 hll (by unfold tokStep; simp only [HC.out]; rw [if_neg NWS.out, if_neg e59, if_neg (by rw [EL.out]; decide), if_neg (by rw [ED.out]; decide)])]
          go_wp2_with (first | (go_at_call 79; refine (letter_any _ _).mono ?_; rintro e w' ⟨rfl, rfl⟩; rw [EL.out]) | (go_at_call 80; refine (digit_any _ _).mono ?_; rintro e w' ⟨rfl, rfl⟩; rw [ED.out]))
          simp only [Exit.jump]
          exact bodyPost_ret (v := .tuple #[.slice none 0 0, .int .i64 k, .int .i64 3]) (by simp [results, Try.results35, go_sem]) rfl ⟨HBB.out, by rw [HR.out]⟩
      · have HR : Hid (toks (bn s) 0 [] = .inl acc) := by
          show _ = _
          rw [← HT.out, toks_end _ _ _ (by rw [bn_len]; omega)]
        go_wp2
        simp only [Exit.jump]
        exact bodyPost_ret (v := .tuple #[u5, .int .i64 0, .int .i64 0]) (by simp [results, Try.results35, go_sem]) rfl ⟨HO.out.2, by rw [HR.out]; exact ⟨_, rfl, HO.out.1⟩⟩
  · rintro a' w' ⟨p, u0, u1, u2, u3, u4, u5, u6, u7, u8, u9, u10, u11, u12, u13, u14, u15, u16, u17, u18, u19, u20, u21, u22, u23, u24, u25, u26, u27, u28, u29, u30, u31, u32, u33, u34, u35, u36, u37, u38, u39, u40, u41, u42, u43, u44, u45, u46, u47, u48, u49, u50, u51, u52, u53, u54, u55, u56, u57, u58, u59, u60, u61, u62, u63, u64, u65, u66, u67, u68, u69, u70, u71, u72, u73, u74, u75, u76, u77, u78, u79, u80, u81, u82, u83, u84, u85, u86, u87, u88, u89, u90, u91, u92, u93, rfl, rfl, HR, hb⟩
    have HH := hidI HR
    have HBB := hidI hb
    clear HR hb
    go_wp2
    simp only [Exit.jump]
    exact bodyPost_ret (v := .tuple #[.slice none 0 0, .int .i64 p, .int .i64 2]) (by simp [results, Try.results35, go_sem]) rfl ⟨HBB.out, by rw [HH.out]⟩
end Go.Proofs.Ytliacfjdenfldaa
