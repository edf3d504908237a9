/- What the statement leans on, part 3: functions of the program and of the reference as Lean functions, their contracts, and plain laws. -/
import Derived.Laws.StructEq
import Derived.Shelf.SlGeneric
import Derived.Shelf.Spec.SlicesGrow
import Derived.Ground.Names8Prog
import Derived.Test.YtckfkbmefdmedaaMJF2
namespace Go.Proofs.Ytckfkbmefdmedaa
open Go.RowKit Go.Proofs.Kq Go.Proofs.Ytckfkbmefdmedaa.Q
set_option linter.unusedVariables false
set_option linter.unusedSimpArgs false
theorem tear_tail (t : List UInt8) (x u : ByteArray) (cut : Nat) (hx : x.size = 64) (hu : u.size = 64) (hc : cut ≤ 64) (h1 : (bl x).drop 60 = t) (h2 : (bl u).drop 60 ≠ t) (h3 : (bl (tearD x u cut)).drop 60 = t) : tearD x u cut = x := by
  have hz : tearD x u cut = tearZ x u cut := by unfold tearD tearZ; rw [hu]
  have hbz : bl (tearD x u cut) = (bl x).take cut ++ (bl u).drop cut := by rw [hz]; exact tear_bl x u cut hx hu hc
  have hxl : (bl x).length = 64 := by rw [← ba_size]; exact hx
  by_cases h60 : cut ≤ 60
  · exfalso
    refine h2 ?_
    rw [hbz] at h3
    have hd : ((bl x).take cut ++ (bl u).drop cut).drop 60 = (bl u).drop 60 := by
      have h1 : ((bl x).take cut).drop 60 = [] := List.drop_eq_nil_of_le (by rw [List.length_take]; omega)
      rw [List.drop_append, h1, List.nil_append, List.drop_drop, List.length_take, hxl, show cut + (60 - min cut 64) = 60 by omega]
    rw [hd] at h3
    exact h3
  · refine ba_ext ?_
    rw [← List.take_append_drop 60 (bl (tearD x u cut)), ← List.take_append_drop 60 (bl x), h3, h1]
    congr 1
    rw [hbz, List.take_append_of_le_length (by rw [List.length_take]; omega), List.take_take, Nat.min_eq_left (by omega)]
theorem rsAll_get (ks : List Int) : ∀ (l : List ByteArray) (i a : Nat) (bs : List ByteArray), a + l.length ≤ bs.length → ∀ (j : Nat) (hj : j < bs.length),
    (rsAll ks i bs (wsL a l)).getD j ByteArray.empty = if h : a ≤ j ∧ j < a + l.length then tearD (l[j - a]'(by omega)) bs[j] (keepAt ks (i + (j - a))) else bs[j]
  | [], i, a, bs, h, j, hj => by
    rw [dif_neg (by simp)]
    show bs.getD j ByteArray.empty = _
    rw [List.getD_eq_getElem?_getD, List.getElem?_eq_getElem hj]; rfl
  | x :: l, i, a, bs, h, j, hj => by
    rw [List.length_cons] at h
    have ha : a < bs.length := by omega
    have e0 : rsAll ks i bs (wsL a (x :: l)) = rsAll ks (i + 1) (bs.set a (tearD x bs[a] (keepAt ks i))) (wsL (a + 1) l) := by
      show rsAll ks (i + 1) (bs.set ((a : Int)).toNat _) _ = _
      rw [Int.toNat_natCast, List.getD_eq_getElem?_getD, List.getElem?_eq_getElem ha]; rfl
    rw [e0, rsAll_get ks l (i + 1) (a + 1) _ (by rw [List.length_set]; omega) j (by rw [List.length_set]; exact hj)]
    by_cases h1 : a = j
    · subst h1
      rw [dif_neg (by omega), dif_pos ⟨Nat.le_refl _, by simp⟩, List.getElem_set_self]
      simp
    · rw [List.getElem_set_ne h1]
      by_cases h2 : a + 1 ≤ j ∧ j < a + 1 + l.length
      · rw [dif_pos h2, dif_pos ⟨by omega, by simp; omega⟩]
        have e1 : (x :: l)[j - a]'(by simp; omega) = l[j - (a + 1)]'(by omega) := by
          have : j - a = (j - (a + 1)) + 1 := by omega
          simp only [this, List.getElem_cons_succ]
        rw [e1, show i + 1 + (j - (a + 1)) = i + (j - a) by omega]
      · rw [dif_neg h2, dif_neg (by simp; omega)]
theorem rsAll_len (ks : List Int) : ∀ (ps : List Wr) (i : Nat) (bs : List ByteArray), (rsAll ks i bs ps).length = bs.length
  | [], i, bs => rfl
  | p :: ps, i, bs => by show (rsAll ks (i + 1) (bs.set _ _) ps).length = _; rw [rsAll_len ks ps]; simp
theorem tear_append {bs R : List ByteArray} {at_ : Nat} (hJ : Jn bs R at_) (h64 : All64 bs) (hR : R.length < 1000000) (p : ByteArray) (l : List ByteArray) (hl : packF (R.length : Int) (bl p) = (l, 0)) (m : Nat) (hfit : at_ + l.length ≤ bs.length) (ks : List Int) (T : List ByteArray) (hT : T = rsAll ks 0 bs (wsL at_ (l.take m))) :
    RecsEnd T R 0 0 at_ ∨ RecsEnd T (R ++ [p]) 0 0 (at_ + l.length) := by
  have hle := hJ.le
  have hTl : T.length = bs.length := by rw [hT, rsAll_len]
  have hml : (l.take m).length ≤ l.length := by rw [List.length_take]; omega
  have hg : ∀ (j : Nat) (hj : j < T.length), T[j] = if h : at_ ≤ j ∧ j < at_ + (l.take m).length then tearD ((l.take m)[j - at_]'(by omega)) (bs[j]'(by omega)) (keepAt ks (0 + (j - at_))) else bs[j]'(by omega) := fun j hj => by
    have h1 := rsAll_get ks (l.take m) 0 at_ bs (by omega) j (by omega)
    rw [← hT, List.getD_eq_getElem?_getD, List.getElem?_eq_getElem hj, Option.getD_some] at h1
    exact h1
  have htk : T.take at_ = bs.take at_ := by
    refine List.ext_getElem (by rw [List.length_take, List.length_take, hTl]) (fun i h1 h2 => ?_)
    rw [List.length_take] at h1
    rw [List.getElem_take, List.getElem_take, hg i (by omega), dif_neg (by omega)]
  have hrecs := hJ.recs.keep (Nat.zero_le _) htk
  by_cases hq : ∃ q n, Rec (R.length : Int) (T.drop at_) q n
  · obtain ⟨q, n, hq⟩ := hq
    right
    have hn1 := hq.1
    have hn3 := hq.2.2.1
    rw [List.length_drop] at hn3
    unfold packF at hl
    split at hl
    · simp at hl
    rename_i hcond
    injection hl with hl1 _
    obtain ⟨c, hc⟩ : ∃ c, c = cntL (bl p).length := ⟨_, rfl⟩
    rw [← hc] at hl1 hcond
    have hll : l.length = c := by rw [← hl1]; exact blkR_len _ _ _ _ _
    have hsame : ∀ i, i < n → i < c ∧ ∃ h : at_ + i < T.length, ∃ h2 : i < l.length, T[at_ + i] = l[i] := fun i hi => by
      have hb := hq.at_ i hi (by rw [List.length_drop]; omega)
      rw [List.getElem_drop] at hb
      have ht : (bl (T[at_ + i]'(by omega))).drop 60 = tagL (((R.length : Int) + 1) % 4294967296) := by rw [hb]; exact one_tail _ _ _ _ (chunk_le _ _)
      have hz : bs[at_ + i]'(by omega) = e64 := hJ.zero _ _ (by omega)
      have hfz := (far_zero (R.length : Int) (by omega) (by omega)).2
      rw [hg (at_ + i) (by omega), hz] at ht
      by_cases him : at_ ≤ at_ + i ∧ at_ + i < at_ + (l.take m).length
      · rw [dif_pos him] at ht
        have hic : i < l.length := by omega
        refine ⟨by omega, by omega, hic, ?_⟩
        rw [hg (at_ + i) (by omega), dif_pos him, hz]
        have e1 : (l.take m)[at_ + i - at_]'(by omega) = l[i] := by
          rw [List.getElem_take]
          congr 1; omega
        rw [e1] at ht ⊢
        have hli : l[i] = oneF (R.length : Int) ((0 + i : Nat) : Int) c (chunk (bl p) (0 + i)) := by
          have h5 := blkR_get (R.length : Int) (bl p) c c 0 i (by omega)
          have h6 : l[i] = (blkR (R.length : Int) (bl p) c 0 c)[i]'(by rw [blkR_len]; omega) := by congr 1; exact hl1.symm
          rw [h6, h5]
        exact tear_tail _ _ _ _ (by rw [hli]; exact one_size _ _ _ _ (chunk_le _ _)) e64_size (keepAt_le _ _) (by rw [hli]; exact one_tail _ _ _ _ (chunk_le _ _)) hfz ht
      · rw [dif_neg him] at ht
        exact absurd ht hfz
    obtain ⟨h0c, h0T, h0l, h0⟩ := hsame 0 hn1
    have hl0 : l[0] = oneF (R.length : Int) ((0 + 0 : Nat) : Int) c (chunk (bl p) (0 + 0)) := by
      have h5 := blkR_get (R.length : Int) (bl p) c c 0 0 (by omega)
      have h6 : l[0] = (blkR (R.length : Int) (bl p) c 0 c)[0]'(by rw [blkR_len]; omega) := by congr 1; exact hl1.symm
      rw [h6, h5]
    have hnc : n = c := by
      have g1 := (rec_ok hq 0 hn1 (by rw [List.length_drop]; omega)).2.1
      rw [List.getElem_drop] at g1
      have g2 : T[at_ + 0]'(by omega) = l[0] := h0
      rw [g2, hl0, one_cnt _ _ _ _ (by omega)] at g1
      exact g1.symm
    subst hnc
    have hRec : Rec (R.length : Int) (T.drop at_) p n := by
      refine ⟨hn1, hq.2.1, by rw [List.length_drop]; omega, hc.symm, ?_⟩
      rw [hl1]
      refine List.ext_getElem (by rw [List.length_take, List.length_drop]; omega) (fun i h1 h2 => ?_)
      rw [List.getElem_take, List.getElem_drop]
      obtain ⟨_, _, _, h7⟩ := hsame i (by omega)
      exact h7
    rw [hll]
    have hRec' : Rec ((0 + R.length : Nat) : Int) (T.drop at_) p n := by rw [Nat.zero_add]; exact hRec
    refine ⟨Recs.snoc hrecs hRec', rec_zero _ (by simp; omega) _ (fun h9 => ?_)⟩
    rw [List.length_drop] at h9
    rw [List.getElem_drop, hg _ (by omega), dif_neg (by omega)]
    exact hJ.zero _ _ (by omega)
  · left
    exact ⟨hrecs, fun q n h => hq ⟨q, n, by rw [Nat.zero_add] at h; exact h⟩⟩
def Zd (a : Nat) (bs T : List ByteArray) : Prop := T.length = bs.length ∧ ∀ (j : Nat), (j < a → T[j]? = bs[j]?) ∧ (T[j]? = bs[j]? ∨ ∃ z, T[j]? = some z ∧ (bl z).take 1 = [0])
theorem Zd.refl (a : Nat) (bs : List ByteArray) : Zd a bs bs := ⟨rfl, fun j => ⟨fun _ => rfl, .inl rfl⟩⟩
theorem Zd.set {a : Nat} {bs T : List ByteArray} (h : Zd a bs T) (k : Nat) (z : ByteArray) (hk : a ≤ k) (hz : T[k]? = some z ∨ (bl z).take 1 = [0]) : Zd a bs (T.set k z) := by
  refine ⟨by rw [List.length_set]; exact h.1, fun j => ?_⟩
  obtain ⟨h1, h2⟩ := h.2 j
  by_cases hj : k = j
  · subst hj
    by_cases hlt : k < T.length
    · have e : (T.set k z)[k]? = some z := by rw [List.getElem?_set_self hlt]
      rw [e]
      refine ⟨fun h9 => absurd h9 (by omega), ?_⟩
      rcases hz with hz | hz
      · rw [hz] at h2
        rcases h2 with h2 | ⟨z', h2, h3⟩
        · exact .inl h2
        · exact .inr ⟨z', h2, h3⟩
      · exact .inr ⟨z, rfl, hz⟩
    · rw [List.set_eq_of_length_le (by omega)]
      exact ⟨h1, h2⟩
  · rw [List.getElem?_set_ne hj]
    exact ⟨h1, h2⟩
def ZW (a : Nat) (ps : List Wr) : Prop := ∀ p ∈ ps, p.data = e64 ∧ (a : Int) ≤ p.at_
theorem bl_e64 : (bl e64).take 1 = [0] := by
  have : bl e64 = List.replicate 64 0 := by
    unfold e64 bl
    have := Lib.repeatL_replicate 0 1 64
    simpa using this
  rw [this]; rfl
theorem tear_zero (y : ByteArray) (hy : y.size = 64) (cut : Nat) (hc : cut ≤ 64) : tearD e64 y cut = y ∨ (bl (tearD e64 y cut)).take 1 = [0] := by
  have hz : tearD e64 y cut = tearZ e64 y cut := by unfold tearD tearZ; rw [hy]
  have hb : bl (tearD e64 y cut) = (bl e64).take cut ++ (bl y).drop cut := by rw [hz]; exact tear_bl e64 y cut e64_size hy hc
  by_cases h0 : cut = 0
  · left
    subst h0
    exact ba_ext (by rw [hb]; simp)
  · right
    have hl : (bl e64).length = 64 := by rw [← ba_size]; exact e64_size
    rw [hb, List.take_append_of_le_length (by rw [List.length_take]; omega), List.take_take, Nat.min_eq_left (by omega), bl_e64]
theorem Zd.setAll {a : Nat} {bs : List ByteArray} : ∀ {ps : List Wr} {T : List ByteArray}, Zd a bs T → ZW a ps → Zd a bs (setAll T ps)
  | [], T, h, hw => h
  | p :: ps, T, h, hw => by
    obtain ⟨h1, h2⟩ := hw p (by simp)
    have := Zd.set h p.at_.toNat p.data (by omega) (.inr (by rw [h1]; exact bl_e64))
    show Zd a bs (Go.Proofs.Ytckfkbmefdmedaa.setAll (T.set p.at_.toNat p.data) ps)
    exact Zd.setAll this (fun q hq => hw q (by simp [hq]))
theorem Zd.rsAll {a : Nat} {bs : List ByteArray} (ks : List Int) : ∀ {ps : List Wr} {T : List ByteArray} {i : Nat}, Zd a bs T → ZW a ps → All64 T → inB T.length ps → Zd a bs (rsAll ks i T ps)
  | [], T, i, h, hw, h64, hin => h
  | p :: ps, T, i, h, hw, h64, hin => by
    obtain ⟨h1, h2⟩ := hw p (by simp)
    have hp := hin p (by simp)
    have hlt : p.at_.toNat < T.length := by omega
    have hy : (T.getD p.at_.toNat ByteArray.empty) = T[p.at_.toNat] := by rw [List.getD_eq_getElem?_getD, List.getElem?_eq_getElem hlt]; rfl
    have hy64 : (T[p.at_.toNat]).size = 64 := h64 _ (List.getElem_mem hlt)
    have hs := Zd.set h p.at_.toNat (tearD p.data (T.getD p.at_.toNat ByteArray.empty) (keepAt ks i)) (by omega) (by
      rw [h1, hy]
      rcases tear_zero _ hy64 (keepAt ks i) (keepAt_le _ _) with h3 | h3
      · left; rw [h3, List.getElem?_eq_getElem hlt]
      · exact .inr h3)
    show Zd a bs (Go.Proofs.Ytckfkbmefdmedaa.rsAll ks (i + 1) (T.set p.at_.toNat (tearD p.data (T.getD p.at_.toNat ByteArray.empty) (keepAt ks i))) ps)
    refine Zd.rsAll ks hs (fun q hq => hw q (by simp [hq])) (all64_set h64 _ ?_) (fun q hq => by rw [List.length_set]; exact hin q (by simp [hq]))
    rw [h1, hy]
    exact tearD_size _ _ _ e64_size hy64 (keepAt_le _ _)
theorem tagL_head (z : Int) (hz : 0 < z) (hz2 : z < 256) : (tagL z).take 1 ≠ [0] := by
  intro h
  have e : (tagL z).take 1 = [UInt8.ofNat (z % 256).toNat] := rfl
  rw [e] at h
  injection h with h _
  have := congrArg UInt8.toNat h
  rw [UInt8.toNat_ofNat'] at this
  have h2 : (0 : UInt8).toNat = 0 := rfl
  rw [h2] at this
  omega
theorem zd_recs {a : Nat} {bs T R : List ByteArray} (h : Zd a bs T) (hR : RecsEnd bs R 0 0 a) (hr : R.length < 200) : RecsEnd T R 0 0 a := by
  have hle := hR.1.le (Nat.zero_le _)
  have htk : T.take a = bs.take a := by
    refine List.ext_getElem? (fun i => ?_)
    rw [List.getElem?_take, List.getElem?_take]
    split
    · rename_i hi; exact (h.2 i).1 hi
    · rfl
  refine ⟨hR.1.keep (Nat.zero_le _) htk, fun q n hq => ?_⟩
  refine hR.2 q n (rec_of_take hq ?_)
  refine List.ext_getElem? (fun i => ?_)
  rw [List.getElem?_take, List.getElem?_take]
  split
  · rename_i hi
    rw [List.getElem?_drop, List.getElem?_drop]
    rcases (h.2 (a + i)).2 with h1 | ⟨z, h1, h2⟩
    · exact h1.symm
    · exfalso
      have hil : i < (T.drop a).length := by have := hq.2.2.1; omega
      have hb := hq.at_ i hi hil
      rw [List.getElem_drop] at hb
      have hlt : a + i < T.length := by rw [List.length_drop] at hil; omega
      rw [List.getElem?_eq_getElem hlt] at h1
      have hz : T[a + i] = z := Option.some.inj h1
      rw [hz] at hb
      have h4 := one_head ((0 + R.length : Nat) : Int) (i : Int) n (chunk (bl q) i)
      rw [← hb] at h4
      have h5 := congrArg (List.take 1) h4
      rw [List.take_take, Nat.min_eq_left (by omega), h2] at h5
      exact tagL_head _ (by omega) (by omega) h5.symm
  · rfl
theorem wrS_two (s : DkS) (i : Int) (x : ByteArray) : (wrS s i x).2 = s ∨ ((wrS s i x).2.bs = s.bs ∧ (wrS s i x).2.ps = s.ps ++ [⟨i, x⟩]) := by
  unfold wrS
  split
  · split
    · exact .inr ⟨rfl, rfl⟩
    · exact .inl rfl
  · exact .inl rfl
theorem erL_two (a : Nat) : ∀ (l : List ByteArray) (s : DkS) (i : Nat) (b : Bool), a ≤ i → ZW a s.ps →
    ((erL s i b l).2.bs = s.bs ∧ ZW a (erL s i b l).2.ps) ∨ ((erL s i b l).2.ps = [] ∧ ∃ ps, ZW a ps ∧ (erL s i b l).2.bs = setAll s.bs ps)
  | [], s, i, b, hi, hw => by
    unfold erL
    split
    · unfold syS
      split
      · exact .inl ⟨rfl, hw⟩
      · split
        · exact .inr ⟨rfl, s.ps, hw, rfl⟩
        · exact .inl ⟨rfl, hw⟩
    · exact .inl ⟨rfl, hw⟩
  | x :: l, s, i, b, hi, hw => by
    have hw2 : ZW a (wrS s i e64).2.ps := by
      rcases wrS_two s i e64 with h | ⟨_, h⟩
      · rw [h]; exact hw
      · rw [h]
        intro p hp
        rcases List.mem_append.1 hp with hp | hp
        · exact hw p hp
        · rcases List.mem_singleton.1 hp with rfl; exact ⟨rfl, by show (a : Int) ≤ (i : Int); omega⟩
    have hb2 : (wrS s i e64).2.bs = s.bs := by
      rcases wrS_two s i e64 with h | ⟨h, _⟩
      · rw [h]
      · exact h
    unfold erL
    split
    · exact erL_two a l s (i + 1) b (by omega) hw
    · split
      · have := erL_two a l (wrS s i e64).2 (i + 1) true (by omega) hw2
        rw [hb2] at this
        exact this
      · exact .inl ⟨hb2, hw2⟩
theorem tear_open {bs R : List ByteArray} {a : Nat} (hR : RecsEnd bs R 0 0 a) (h64 : All64 bs) (f : Int) (hf : -9223372036854775808 ≤ f ∧ f ≤ 9223372036854775807) (hr : R.length < 200) (ks : List Int) :
    ∃ T, rsS (erL ⟨bs, [], f, false⟩ a false (bs.drop a)).2 ks = ⟨T, [], -1, false⟩ ∧ RecsEnd T R 0 0 a ∧ T.length = bs.length ∧ All64 T := by
  have hg := erL_good (bs.drop a) 0 ⟨bs, [], f, false⟩ a false (⟨rfl, h64, fun p hp => by simp at hp, fun p hp => by simp at hp, Nat.le_refl _, hf⟩ : Good bs.length 0 ⟨bs, [], f, false⟩)
  have h2 := erL_two a (bs.drop a) ⟨bs, [], f, false⟩ a false (Nat.le_refl _) (fun p hp => by simp at hp)
  generalize (erL ⟨bs, [], f, false⟩ a false (bs.drop a)).2 = s at *
  have hok := rsAll_ok ks s.ps 0 s.bs hg.b64 hg.w64 (by rw [hg.len]; exact hg.ins)
  refine ⟨rsAll ks 0 s.bs s.ps, rfl, ?_, by rw [hok.1, hg.len], hok.2⟩
  refine zd_recs ?_ hR hr
  rcases h2 with ⟨h3, h4⟩ | ⟨h3, ps, h4, h5⟩
  · have h3 : s.bs = bs := h3
    refine Zd.rsAll ks ?_ h4 hg.b64 (by rw [hg.len]; exact hg.ins)
    rw [h3]; exact Zd.refl a bs
  · rw [h3]
    show Zd a bs s.bs
    have h5 : s.bs = setAll bs ps := h5
    rw [h5]
    exact Zd.setAll (Zd.refl a bs) h4
theorem wrL_fuse (bs : List ByteArray) : ∀ (l : List ByteArray) (a : Nat) (ps : List Wr) (f : Int), 0 ≤ f → a + l.length ≤ bs.length → (∀ x ∈ l, x.size = 64) →
    ((l.length : Int) ≤ f ∧ wrL ⟨bs, ps, f, false⟩ a l = (0, ⟨bs, ps ++ wsL a l, f - l.length, false⟩)) ∨ ∃ m, wrL ⟨bs, ps, f, false⟩ a l = (7, ⟨bs, ps ++ wsL a (l.take m), 0, true⟩)
  | [], a, ps, f, hf, h, hx => .inl ⟨by simpa using hf, by simp [wrL, wsL]⟩
  | x :: l, a, ps, f, hf, h, hx => by
    rw [List.length_cons] at h
    have e := wrS_ok bs ps f a x (by omega) (hx x (by simp))
    by_cases h0 : f = 0
    · right
      subst h0
      refine ⟨1, ?_⟩
      rw [if_pos rfl] at e
      have h7 : (wrS ⟨bs, ps, 0, false⟩ (a : Int) x).1 = 7 := by rw [e]
      unfold wrL
      rw [if_neg (by rw [h7]; decide), e]
      rfl
    · have hn : thN f = f - 1 := by unfold thN; rw [if_pos (by omega)]
      rw [if_neg h0, hn, decide_eq_false h0] at e
      have h7 : (wrS ⟨bs, ps, f, false⟩ (a : Int) x).1 = 0 := by rw [e]
      have e2 : wrL ⟨bs, ps, f, false⟩ a (x :: l) = wrL ⟨bs, ps ++ [(⟨(a : Int), x⟩ : Wr)], f - 1, false⟩ (a + 1) l := by
        conv => lhs; unfold wrL
        rw [if_pos h7, e]
      rw [e2]
      rcases wrL_fuse bs l (a + 1) (ps ++ [(⟨(a : Int), x⟩ : Wr)]) (f - 1) (by omega) (by omega) (fun y hy => hx y (by simp [hy])) with ⟨h8, h9⟩ | ⟨m, h9⟩
      · left
        refine ⟨by rw [List.length_cons]; omega, ?_⟩
        rw [h9, wsL, List.append_assoc, List.length_cons]
        have : f - 1 - (l.length : Int) = f - ((l.length + 1 : Nat) : Int) := by omega
        rw [this]; rfl
      · right
        refine ⟨m + 1, ?_⟩
        rw [h9, List.take_succ_cons, wsL, List.append_assoc]; rfl
theorem tear_ap {bs R : List ByteArray} {at_ : Nat} (hJ : Jn bs R at_) (h64 : All64 bs) (hb : bs.length ≤ 65536) (hR : R.length < 1000) (p : ByteArray) (f : Int) (hf : 0 ≤ f ∧ f ≤ 1000) (ks : List Int) :
    ∃ T, rsS (apF ⟨bs, [], f, false⟩ at_ R.length p).2 ks = ⟨T, [], -1, false⟩ ∧ T.length = bs.length ∧ All64 T ∧
      ((apF ⟨bs, [], f, false⟩ at_ R.length p).1 = 0 → ∃ a, RecsEnd T (R ++ [p]) 0 0 a) ∧
      ((apF ⟨bs, [], f, false⟩ at_ R.length p).1 ≠ 0 → (∃ a, RecsEnd T R 0 0 a) ∨ ((bl p).length ≠ 0 ∧ ∃ a, RecsEnd T (R ++ [p]) 0 0 a)) := by
  have hgood : Good bs.length 0 ⟨bs, [], f, false⟩ := ⟨rfl, h64, fun p hp => by simp at hp, fun p hp => by simp at hp, Nat.le_refl _, by show -9223372036854775808 ≤ f ∧ f ≤ 9223372036854775807; omega⟩
  have hg := apF_good hgood at_ R.length p
  obtain ⟨T, hT⟩ : ∃ T, T = rsAll ks 0 (apF ⟨bs, [], f, false⟩ at_ R.length p).2.bs (apF ⟨bs, [], f, false⟩ at_ R.length p).2.ps := ⟨_, rfl⟩
  have hok := rsAll_ok ks (apF ⟨bs, [], f, false⟩ at_ R.length p).2.ps 0 (apF ⟨bs, [], f, false⟩ at_ R.length p).2.bs hg.b64 hg.w64 (by rw [hg.len]; exact hg.ins)
  rw [← hT, hg.len] at hok
  refine ⟨T, by rw [hT]; rfl, hok.1, hok.2, ?_⟩
  obtain ⟨l, r, hpk⟩ : ∃ l r, packF R.length (bl p) = (l, r) := ⟨_, _, rfl⟩
  have hsame : (apF ⟨bs, [], f, false⟩ at_ R.length p).2 = ⟨bs, [], f, false⟩ → T = bs := fun h => by rw [hT, h]; rfl
  have hend : RecsEnd bs R 0 0 at_ := hJ.end_ (by omega)
  by_cases hr : r = 0
  · subst hr
    have hne : (bl p).length ≠ 0 := fun h0 => by
      unfold packF at hpk
      rw [h0, if_pos (.inl (by decide))] at hpk
      injection hpk with _ h1
      omega
    by_cases hfull : bs.length < at_ + l.length
    · have e : apF ⟨bs, [], f, false⟩ at_ R.length p = (6, ⟨bs, [], f, false⟩) := by
        unfold apF; rw [if_neg (show ¬ (false = true) by decide), hpk, if_pos rfl, if_pos hfull]
      rw [hsame (by rw [e]), e]
      exact ⟨fun h => absurd h (show ¬ (6 : Int) = 0 by decide), fun _ => .inl ⟨_, hend⟩⟩
    · have hfit : at_ + l.length ≤ bs.length := by omega
      have hsz : ∀ x ∈ l, x.size = 64 := by have := packF_size (n := (R.length : Int)) (L := bl p); rw [hpk] at this; exact this
      have e : apF ⟨bs, [], f, false⟩ at_ R.length p = if (wrL ⟨bs, [], f, false⟩ at_ l).1 = 0 then syS (wrL ⟨bs, [], f, false⟩ at_ l).2 else wrL ⟨bs, [], f, false⟩ at_ l := by
        unfold apF
        rw [if_neg (show ¬ (false = true) by decide), hpk, if_pos rfl]
        rw [if_neg hfull]
      rcases wrL_fuse bs l at_ [] f hf.1 hfit hsz with ⟨h8, h9⟩ | ⟨m, h9⟩
      · rw [h9, if_pos rfl, List.nil_append] at e
        by_cases hfz : f - (l.length : Int) = 0
        · have e2 : syS ⟨bs, wsL at_ l, f - (l.length : Int), false⟩ = (7, ⟨bs, wsL at_ l, 0, true⟩) := by
            rw [hfz]; rfl
          have e := e.trans e2
          have hTt : T = rsAll ks 0 bs (wsL at_ (l.take l.length)) := by rw [hT, e, List.take_length]
          rw [e]
          refine ⟨fun h => absurd h (show ¬ (7 : Int) = 0 by decide), fun _ => ?_⟩
          rcases tear_append hJ h64 (by omega) p l hpk l.length hfit ks T hTt with h1 | h1
          · exact .inl ⟨_, h1⟩
          · exact .inr ⟨hne, _, h1⟩
        · have hfp : 0 < f - (l.length : Int) := by omega
          have e2 : syS ⟨bs, wsL at_ l, f - (l.length : Int), false⟩ = (0, ⟨setAll bs (wsL at_ l), [], f - (l.length : Int) - 1, false⟩) := by
            unfold syS
            have : thN (f - (l.length : Int)) = f - (l.length : Int) - 1 := by unfold thN; rw [if_pos hfp]
            simp [thF, hfz, this]
          have e := e.trans e2
          have hTt : T = bs.take at_ ++ l ++ bs.drop (at_ + l.length) := by
            rw [hT, e]
            show setAll bs (wsL at_ l) = _
            exact setAll_wsL _ _ _ hfit
          rw [e]
          refine ⟨fun _ => ⟨at_ + l.length, ?_⟩, fun h => absurd rfl h⟩
          rw [hTt]
          exact (hJ.more p l hpk hfit).end_ (by simp only [List.length_append, List.length_take, List.length_drop]; omega)
      · rw [h9, if_neg (show ¬ (7 : Int) = 0 by decide), List.nil_append] at e
        have hTt : T = rsAll ks 0 bs (wsL at_ (l.take m)) := by rw [hT, e]
        rw [e]
        refine ⟨fun h => absurd h (show ¬ (7 : Int) = 0 by decide), fun _ => ?_⟩
        rcases tear_append hJ h64 (by omega) p l hpk m hfit ks T hTt with h1 | h1
        · exact .inl ⟨_, h1⟩
        · exact .inr ⟨hne, _, h1⟩
  · have e : apF ⟨bs, [], f, false⟩ at_ R.length p = (1, ⟨bs, [], f, false⟩) := by
      unfold apF; rw [if_neg (show ¬ (false = true) by decide), hpk, if_neg hr]
    rw [hsame (by rw [e]), e]
    exact ⟨fun h => absurd h (show ¬ (1 : Int) = 0 by decide), fun _ => .inl ⟨_, hend⟩⟩
end Go.Proofs.Ytckfkbmefdmedaa
namespace Go.Proofs.Ytckfkbmefdmedaa.Q
open Go.RowKit Go.Proofs.YtckfkbmefdmedaaW.PrintWords Go.Proofs.YtckfkbmefdmedaaW.PrintLast Go.Proofs.YtckfkbmefdmedaaW.PrintMore
set_option linter.unusedVariables false
set_option linter.unusedSimpArgs false
structure S84 where
  f0 : Int
  f1 : (List Int)
def z84 : S84 := ⟨(0 : Int), ([] : List Int)⟩
def k84 : Kd S84 := Kd.iso (Kd.pair (Kd.int .u8) (Kd.slice 5 (Kd.int .u8))) (fun x : S84 => (x.f0, x.f1))
theorem k84_open {w : World} {x : S84} {cs : List Value} (h : k84.K w x cs) : ∃ A1 c1, cs = [.int .u8 x.f0, .slice A1 x.f1.length c1] ∧ x.f1.length ≤ c1 ∧ (Kd.int .u8).C w A1 x.f1.length x.f1 := by
  obtain ⟨_, _, rfl, rfl, ⟨A1, c1, rfl, l1, g1⟩⟩ := h
  exact ⟨A1, c1, rfl, l1, g1⟩
def rd_T84 (xs : List S84) (i : Int) : S84 := xs.getD i.toNat z84
theorem at_T84 {w : World} {A : Option Addr} {n : Nat} {xs : List S84} (h : Kd.C k84 w A n xs) (i : Int) (h0 : 0 ≤ i) (h1 : i < n) : ∃ ad A1 c1, A = some ad ∧ w.cell? (ad.add (i.toNat * 2)) = some (.int .u8 (rd_T84 xs i).f0) ∧ w.cell? ⟨(ad.add (i.toNat * 2)).block, (ad.add (i.toNat * 2)).off + 1, none⟩ = some (.slice A1 (rd_T84 xs i).f1.length c1) ∧ (rd_T84 xs i).f1.length ≤ c1 ∧ (Kd.int .u8).C w A1 (rd_T84 xs i).f1.length (rd_T84 xs i).f1 := by
  obtain ⟨ad, c, e, _, hK, hc0⟩ := Kd.C_get h z84 i h0 h1
  have hc : ∀ j u, c[j]? = some u → w.cell? (ad.add (i.toNat * 2 + j)) = some u := hc0
  obtain ⟨A1, c1, rfl, l1, g1⟩ := k84_open hK
  exact ⟨ad, A1, c1, e, hc 0 _ rfl, by rw [← add_field _ _ 1 (by omega)]; exact hc 1 _ rfl, l1, g1⟩
end Go.Proofs.Ytckfkbmefdmedaa.Q
namespace Go.Proofs.Ytckfkbmefdmedaa
open Go.RowKit Go.Proofs.Kq Go.Proofs.Ytckfkbmefdmedaa.Q
open Go.Proofs.YtckfkbmefdmedaaW.PrintWords (pw_cell_below Kd Kd.C Kd.C_below Kd.R Kd.own_of_R rdOf)
open Go.Proofs.YtckfkbmefdmedaaW.PrintLast
set_option linter.unusedVariables false
set_option linter.unusedSimpArgs false
theorem wpList_append_anyG {P : Program} (w : World) {ops : Array Oper} {rest : List Oper} {o : Oper} {a : Act} {Q : Exit → Act → World → Prop} (hgd : Region.wanted o (yielded ops a.tmps) = true) (s x : Operand) (t : TypeId)
    (ho : o.op = .call { callee := .builtin .append, args := #[s, x], argTypes := #[t, t] })
    (base : Nat) (e : TypeId) (i : TypeInfo) (z : Value) (size bytes : Nat) (ht : P.underlying t = some (.slice e)) (hi : P.info? e = some i) (hz : i.zero = some z)
    (hsize : i.size = size) (hby : i.bytes = bytes) (hzs : z.cells.size = size) (hsz : 0 < size)
    (v : Value) (n : Nat) (xs : List Value) (hs : a.eval s = v) (hown : w.ownsRow base e size v n xs)
    (B : Nat) (A : Option Addr) (m c : Nat) (news : List Value) (hx : a.eval x = .slice A m c) (hr : Reads w B size A m news) (h1 : ∀ u ∈ news, u.oneCell' = true)
    (h63 : n + m ≤ maxLen) (hbytes : (n + m) * bytes ≤ 140737488355328) (hbase : base ≤ w.heap.size)
    (h : ∀ v' w', w'.ownsRow base e size v' (n + m) (xs ++ news) → w.grownBy w' v.ownBlock → (v'.ownBlock = v.ownBlock ∨ v'.ownBlock = some w.heap.size) → wpList P ops Q rest (a.put o.dst v') w') : wpList P ops Q (o :: rest) a w :=
  wpList_step fun K hK => by
    rw [if_pos hgd]
    exact wp_append_any w s x t ho base e i z size bytes ht hi hz hsize hby hzs hsz v n xs hs hown B A m c news hx hr h1 h63 hbytes hbase fun v' w' h2 h3 h4 => hK _ _ (h v' w' h2 h3 h4)
theorem reads_one (w : World) (z : ByteArray) : Reads (w.alloc (.cells #[.string z] 9)) (w.heap.size + 1) 1 (some ⟨w.heap.size, 0, none⟩) 1 [.string z] := ⟨rfl, fun _ => ⟨_, rfl, Nat.lt_succ_self _, fun j q hj => by
  have h2 := Blk.c (Blk.new' (w := w) (b := w.heap.size) (cs := #[.string z]) (T := 9) rfl)
  rw [Kp.add_plain', Nat.zero_add, h2]
  simpa using hj⟩⟩
theorem equal_diff (b1 b2 : Nat) (v1 v2 : Value) (xs ys : List ByteArray) (w : World) (h1 : Strs w b1 v1 xs) (h2 : Strs w b2 v2 ys) (hl : xs.length ≠ ys.length) : Calls Try.prog 21 #[v1, v2] w fun e w' => e = .returned (.bool false) ∧ ∃ n, w' = w.drewN n := by
  obtain ⟨A1, c1, rfl, l1, C1⟩ := strs_reads h1
  obtain ⟨A2, c2, rfl, l2, C2⟩ := strs_reads h2
  refine (slices_Equal_string_string.calls 0 A1 c1 xs A2 c2 ys false w C1 l1 C2 l2 (by unfold slices_Equal_string_string.f; rw [if_neg (by omega)])).mono ?_
  rintro e w9 ⟨rfl, hd⟩
  obtain ⟨m, rfl⟩ := hd
  exact ⟨rfl, m, rfl⟩
structure BK (w wr : World) (d j : Nat) (v1 v2 : Value) (s : DkS) (at_ cnt : Nat) (vk : Value) (kept : List ByteArray) : Prop where
  P : BJ w wr d j v1 v2 s at_ cnt
  S : Strs wr w.heap.size vk kept
  apart : ∀ q, vk.ownBlock = some q → ¬ PS d j v1 v2 q
section
variable {w wr w' : World} {d j : Nat} {v1 v2 vk : Value} {s : DkS} {at_ cnt : Nat} {kept : List ByteArray}
theorem BK.below (h : BK w wr d j v1 v2 s at_ cnt vk kept) (hb : Below wr.heap.size wr w') : BK w w' d j v1 v2 s at_ cnt vk kept := ⟨h.P.below hb, h.S.below hb, h.apart⟩
theorem BK.ap {len : Nat} {r : Int × DkS} {e : Ending} (h : BK w wr d j v1 v2 s at_ cnt vk kept) (hA : ApP w.heap.size d j v1 v2 at_ cnt len r wr e w') :
    e = .returned (.int .i64 r.1) ∧ ∃ v2', BK w w' d j v1 v2' r.2 (apAt r at_ len) (apCnt r cnt) vk kept := by
  obtain ⟨rfl, v2', hB, hF, hP⟩ := h.P.ap hA
  refine ⟨rfl, v2', hB, h.S.fr hF (fun q hq => h.apart q hq), fun q hq hn => ?_⟩
  rcases hP q hn with h1 | h1
  · exact h.apart q hq h1
  · have := h.S.lt hq; omega
theorem BK.mu {s' : DkS} {r e : Ending} (h : BK w wr d j v1 v2 s at_ cnt vk kept) (hM : MuP w.heap.size d v1 v2 r s' wr e w') :
    e = r ∧ ∃ v2', BK w w' d j v1 v2' s' at_ cnt vk kept := by
  obtain ⟨rfl, v2', hD, hF, hP⟩ := hM
  refine ⟨rfl, v2', ⟨hD, hF.blk h.P.J (notDSj h.P.D h.P.J), h.P.bel.trans (Fr.toB hF (fun q hq => h.P.ge (.inl hq)) h.P.bel.size), h.P.hd, h.P.hj⟩, h.S.fr hF (fun q hq hn => h.apart q hq (.inl hn)), fun q hq hn => ?_⟩
  rcases hn with hn | hn
  · rcases hP q hn with h1 | h1
    · exact h.apart q hq (.inl h1)
    · have := h.S.lt hq; omega
  · exact h.apart q hq (.inr hn)
theorem OpP.mu {base a : Nat} {R : List ByteArray} {r : Int × DkS} {e : Ending} (h : OpP base d v1 v2 R a r wr e w') : ∃ pj vr, e = .returned (.tuple #[pj, vr, .int .i64 r.1]) ∧ MuP base d v1 v2 e r.2 wr e w' := by
  obtain ⟨v2', pj, vr, rfl, hD, hF, hP, _⟩ := h
  exact ⟨pj, vr, rfl, rfl, v2', hD, hF, hP⟩
theorem BK.app {o : Obj} {w5 : World} {v5 : Value} {p : ByteArray} (h : BK w wr d j v1 v2 s at_ cnt vk kept) (hO5 : Strs w5 w.heap.size v5 (kept ++ [p])) (hg : (wr.alloc o).grownBy w5 vk.ownBlock) (hat : v5.ownBlock = vk.ownBlock ∨ v5.ownBlock = some (wr.alloc o).heap.size) :
    BK w w5 d j v1 v2 s at_ cnt v5 (kept ++ [p]) := by
  have hF : Fr (fun q => vk.ownBlock = some q) wr w5 := ((Fr.refl _ wr).alloc o).grown hg (fun b e _ => e)
  refine ⟨h.P.fr hF (fun q hq hn => h.apart q hn hq) (fun q hq => h.S.ge hq), hO5, fun q hq hn => ?_⟩
  rcases hat with h2 | h2
  · rw [h2] at hq; exact h.apart q hq hn
  · rw [h2] at hq
    have e : q = wr.heap.size + 1 := by simpa using hq.symm
    have := h.P.lt hn
    omega
end
theorem fail_at {w : World} {A : Option Addr} {n : Nat} {l : List S84} (h : Kd.C k84 w A n l) (k : Nat) (hk : k < n) : ∃ b off A1 c1, A = some ⟨b, off, none⟩ ∧ w.cell? ⟨b, off + k * 2, none⟩ = some (.int .u8 (rd_T84 l (k : Int)).f0) ∧ w.cell? ⟨b, off + k * 2 + 1, none⟩ = some (.slice A1 (rd_T84 l (k : Int)).f1.length c1) ∧ (rd_T84 l (k : Int)).f1.length ≤ c1 ∧ (Kd.int .u8).C w A1 (rd_T84 l (k : Int)).f1.length (rd_T84 l (k : Int)).f1 := by
  obtain ⟨ad, A1, c1, rfl, h0, h1, hl, hC⟩ := at_T84 h (k : Int) (by omega) (by omega)
  have hsp : ad.spot = none := by
    obtain ⟨ad', _, _, e', h0', _⟩ := at_T84 h 0 (by omega) (by omega)
    cases e'
    have e := Rk.spot_none h0'
    simpa [Addr.add] using e
  have hk' : ((k : Int)).toNat = k := Int.toNat_natCast k
  rw [hk', Kp.addr_eta hsp, Kp.add_plain'] at h0 h1
  exact ⟨ad.block, ad.off, A1, c1, by rw [← Kp.addr_eta hsp], h0, h1, hl, hC⟩
theorem mu_blk {w w' : World} {base d : Nat} {v1 v2 : Value} {s0 s : DkS} {r e : Ending} (h : DT w base d v1 v2 s0) (hM : MuP base d v1 v2 r s w e w') (x : Nat) (cs : Array Value) (T : TypeId) (hB : Blk w x cs T) (h1 : T ≠ 132) (h2 : T ≠ 9) (h3 : T ≠ 135) : Blk w' x cs T := by
  obtain ⟨_, v2', _, hF, _⟩ := hM
  refine hF.blk hB ?_
  rintro (e | hk | hk)
  · have a := h.blk; unfold Blk at a hB; rw [← e, hB] at a; cases a; exact h1 rfl
  · exact h.own.ne hB (Ne.symm h2) hk
  · exact h.pend.ne hB (Ne.symm h3) hk
theorem ap_blk {w w' : World} {base d j at_ cnt a1 c1 len : Nat} {v1 v2 : Value} {s0 : DkS} {r : Int × DkS} {e : Ending} (h : DT w base d v1 v2 s0) (hJ : JB w j d a1 c1) (hA : ApP base d j v1 v2 at_ cnt len r w e w') (x : Nat) (cs : Array Value) (T : TypeId) (hB : Blk w x cs T) (h1 : T ≠ 132) (h2 : T ≠ 9) (h3 : T ≠ 135) (h4 : T ≠ 144) : Blk w' x cs T := by
  obtain ⟨_, v2', _, hF, _⟩ := hA
  refine hF.blk hB ?_
  rintro ((e | hk | hk) | e)
  · have a := h.blk; unfold Blk at a hB; rw [← e, hB] at a; cases a; exact h1 rfl
  · exact h.own.ne hB (Ne.symm h2) hk
  · exact h.pend.ne hB (Ne.symm h3) hk
  · unfold JB Blk at hJ; unfold Blk at hB; rw [← e, hB] at hJ; cases hJ; exact h4 rfl
def Ri (bs kept : List ByteArray) (lst : ByteArray) (i at_ cnt : Nat) : Prop :=
  All64 bs ∧ bs.length = 300 ∧ kept.length ≤ 31 ∧ lst.size ≤ 2000 ∧ (∃ R a, RecsEnd bs R 0 0 a ∧ (R = kept ∨ ((bl lst).length ≠ 0 ∧ R = kept ++ [lst]))) ∧ (i = 0 → Jn bs kept at_ ∧ cnt = kept.length ∧ kept.length ≤ 30)
set_option maxHeartbeats 32000000 in
set_option maxRecDepth 100000 in
theorem jfails_any (A0 A1 AF : Option Addr) (c0 c1 cF : Nat) (l m : List ByteArray) (last : ByteArray) (f : List S84) (w : World) (hC0 : Kd.C Kd.string w A0 l.length l) (hc0 : l.length ≤ c0) (hl0 : l.length ≤ 8796093022004) (hs0 : ∀ s ∈ l, s.size ≤ 140737488351232)
    (hC1 : Kd.C Kd.string w A1 m.length m) (hc1 : m.length ≤ c1) (hl1 : m.length ≤ 8796093022004) (hs1 : ∀ s ∈ m, s.size ≤ 140737488351232) (hCF : Kd.C k84 w AF f.length f) (hlF : f.length ≤ 8796093022004) (hokF : ∀ x ∈ f, (0 ≤ x.f0 ∧ x.f0 ≤ 255) ∧ ∀ k ∈ x.f1, 0 ≤ k ∧ k ≤ 255) (hlast : last.size ≤ 140737488351232) :
    Calls Try.prog 10 #[.agg #[.slice A0 l.length c0, .slice A1 m.length c1], .string last, .slice AF f.length cF] w (Tru8 w) := by
  have HC0 := hidI hC0
  have HC1 := hidI hC1
  have HCF := hidI hCF
  have HOK := hidI hokF
  obtain ⟨b0, K0, hK0, hsm0⟩ := small42_ok l (by omega) hs0
  obtain ⟨b1, K1, hK1, hsm1⟩ := small42_ok m (by omega) hs1
  have HSM0 : Hid (∀ w1, Below w.heap.size w w1 → Calls Try.prog 42 #[.slice A0 l.length c0] w1 fun e w' => e = .returned (.bool b0) ∧ Below w1.heap.size w1 w') := hidI (fun w1 hb => (souklaw06_small.calls K0 A0 c0 l b0 w1 (Kd.C_below HC0.out hb) hc0 hK0).mono (fun e w' h => ⟨h.1, by obtain ⟨m, rfl⟩ := h.2; exact below_drewN (Below.refl _ _) m⟩))
  have HSM1 : Hid (∀ w1, Below w.heap.size w w1 → Calls Try.prog 42 #[.slice A1 m.length c1] w1 fun e w' => e = .returned (.bool b1) ∧ Below w1.heap.size w1 w') := hidI (fun w1 hb => (souklaw06_small.calls K1 A1 c1 m b1 w1 (Kd.C_below HC1.out hb) hc1 hK1).mono (fun e w' h => ⟨h.1, by obtain ⟨m, rfl⟩ := h.2; exact below_drewN (Below.refl _ _) m⟩))
  clear hC0 hc0 hK0 hC1 hc1 hK1 hCF hokF hs0 hs1
  cases b0
  · clear hsm0 hsm1 hlast
    go_enter Try.func10, Try.ntmps10
    go_wp2_with fail
    go_region
    have HB0 : Hid (Below w.heap.size w (w.alloc (.cells #[.slice A0 l.length c0, .slice A1 m.length c1] 81)).drew) := hidI (below_new (Below.refl _ _) _).drew
    generalize (w.alloc (.cells #[.slice A0 l.length c0, .slice A1 m.length c1] 81)).drew = wA at *
    go_wp2_with fail
    with_reducible refine (lives06_any wA).mono ?_
    rintro e w1 ⟨rfl, hb1⟩
    have HB1 := hidI (below_step HB0.out hb1)
    clear hb1
    simp only []
    go_wp2_with fail
    with_reducible refine (HSM0.out _ HB1.out).mono ?_
    rintro e w2 ⟨rfl, hb2⟩
    have HB2 := hidI (below_step HB1.out hb2)
    clear hb2
    simp only []
    go_wp2_with fail
    with_reducible refine (lives06_any w2).mono ?_
    rintro e w9 ⟨rfl, hb9⟩
    have hfin : Hid (Tru8 w (.returned (.bool true)) w9) := hidI ⟨rfl, below_step HB2.out hb9⟩
    clear hb9
    simp only []
    go_wp2_with fail
    go_ret
    exact hfin.out
  cases b1
  · clear hsm0 hsm1 hlast
    go_enter Try.func10, Try.ntmps10
    go_wp2_with fail
    go_region
    have HB0 : Hid (Below w.heap.size w (w.alloc (.cells #[.slice A0 l.length c0, .slice A1 m.length c1] 81)).drew) := hidI (below_new (Below.refl _ _) _).drew
    generalize (w.alloc (.cells #[.slice A0 l.length c0, .slice A1 m.length c1] 81)).drew = wA at *
    go_wp2_with fail
    with_reducible refine (lives06_any wA).mono ?_
    rintro e w1 ⟨rfl, hb1⟩
    have HB1 := hidI (below_step HB0.out hb1)
    clear hb1
    simp only []
    go_wp2_with fail
    with_reducible refine (HSM0.out _ HB1.out).mono ?_
    rintro e w2 ⟨rfl, hb2⟩
    have HB2 := hidI (below_step HB1.out hb2)
    clear hb2
    simp only []
    go_wp2_with fail
    with_reducible refine (HSM1.out _ HB2.out).mono ?_
    rintro e w3 ⟨rfl, hb3⟩
    have HB3 := hidI (below_step HB2.out hb3)
    clear hb3
    simp only []
    go_wp2_with fail
    with_reducible refine (lives06_any w3).mono ?_
    rintro e w9 ⟨rfl, hb9⟩
    have hfin : Hid (Tru8 w (.returned (.bool true)) w9) := hidI ⟨rfl, below_step HB3.out hb9⟩
    clear hb9
    simp only []
    go_wp2_with fail
    go_ret
    exact hfin.out
  obtain ⟨hl30, hs4⟩ := hsm0 rfl
  obtain ⟨hm30, hm4⟩ := hsm1 rfl
  have HSZ0 := hidI hs4
  have HSZ1 := hidI hm4
  clear hsm0 hsm1 hs4 hm4
  by_cases hbig : 2000 < last.size
  · have g1 : decide (2000 < (last.size : Int)) = true := decide_eq_true (by omega)
    go_enter Try.func10, Try.ntmps10
    go_wp2_with fail
    go_region
    have HB0 : Hid (Below w.heap.size w (w.alloc (.cells #[.slice A0 l.length c0, .slice A1 m.length c1] 81)).drew) := hidI (below_new (Below.refl _ _) _).drew
    generalize (w.alloc (.cells #[.slice A0 l.length c0, .slice A1 m.length c1] 81)).drew = wA at *
    go_wp2_with fail
    with_reducible refine (lives06_any wA).mono ?_
    rintro e w1 ⟨rfl, hb1⟩
    have HB1 := hidI (below_step HB0.out hb1)
    clear hb1
    simp only []
    go_wp2_with fail
    with_reducible refine (HSM0.out _ HB1.out).mono ?_
    rintro e w2 ⟨rfl, hb2⟩
    have HB2 := hidI (below_step HB1.out hb2)
    clear hb2
    simp only []
    go_wp2_with fail
    with_reducible refine (HSM1.out _ HB2.out).mono ?_
    rintro e w3 ⟨rfl, hb3⟩
    have HB3 := hidI (below_step HB2.out hb3)
    clear hb3
    simp only []
    go_wp2_with fail
    with_reducible refine (lives06_any w3).mono ?_
    rintro e w9 ⟨rfl, hb9⟩
    have hfin : Hid (Tru8 w (.returned (.bool true)) w9) := hidI ⟨rfl, below_step HB3.out hb9⟩
    clear hb9
    simp only []
    go_wp2_with fail
    go_ret
    exact hfin.out
  by_cases hbig2 : 8 < f.length
  · have g1 : decide (2000 < (last.size : Int)) = false := decide_eq_false (by omega)
    have g2 : decide (8 < (f.length : Int)) = true := decide_eq_true (by omega)
    clear hbig
    go_enter Try.func10, Try.ntmps10
    go_wp2_with fail
    go_region
    have HB0 : Hid (Below w.heap.size w (w.alloc (.cells #[.slice A0 l.length c0, .slice A1 m.length c1] 81)).drew) := hidI (below_new (Below.refl _ _) _).drew
    generalize (w.alloc (.cells #[.slice A0 l.length c0, .slice A1 m.length c1] 81)).drew = wA at *
    go_wp2_with fail
    with_reducible refine (lives06_any wA).mono ?_
    rintro e w1 ⟨rfl, hb1⟩
    have HB1 := hidI (below_step HB0.out hb1)
    clear hb1
    simp only []
    go_wp2_with fail
    with_reducible refine (HSM0.out _ HB1.out).mono ?_
    rintro e w2 ⟨rfl, hb2⟩
    have HB2 := hidI (below_step HB1.out hb2)
    clear hb2
    simp only []
    go_wp2_with fail
    with_reducible refine (HSM1.out _ HB2.out).mono ?_
    rintro e w3 ⟨rfl, hb3⟩
    have HB3 := hidI (below_step HB2.out hb3)
    clear hb3
    simp only []
    go_wp2_with fail
    with_reducible refine (lives06_any w3).mono ?_
    rintro e w9 ⟨rfl, hb9⟩
    have hfin : Hid (Tru8 w (.returned (.bool true)) w9) := hidI ⟨rfl, below_step HB3.out hb9⟩
    clear hb9
    simp only []
    go_wp2_with fail
    go_ret
    exact hfin.out
  have g1 : decide (2000 < (last.size : Int)) = false := decide_eq_false (by omega)
  have g2 : decide (8 < (f.length : Int)) = false := decide_eq_false (by omega)
  have hlast2 : last.size ≤ 2000 := by omega
  have hf8 : f.length ≤ 8 := by omega
  clear hbig hbig2 hlast hlF
  obtain ⟨i9, hi9, hz90, hz91, hz92⟩ := info_parts info9s
  go_enter Try.func10, Try.ntmps10
  go_wp2_with fail
  go_region
  have HB0 : Hid (Below w.heap.size w (w.alloc (.cells #[.slice A0 l.length c0, .slice A1 m.length c1] 81)).drew) := hidI (below_new (Below.refl _ _) _).drew
  generalize (w.alloc (.cells #[.slice A0 l.length c0, .slice A1 m.length c1] 81)).drew = wA at *
  go_wp2_with fail
  with_reducible refine (lives06_any wA).mono ?_
  rintro e w1 ⟨rfl, hb1⟩
  have HB1 := hidI (below_step HB0.out hb1)
  clear hb1
  simp only []
  go_wp2_with fail
  with_reducible refine (HSM0.out _ HB1.out).mono ?_
  rintro e w2 ⟨rfl, hb2⟩
  have HB2 := hidI (below_step HB1.out hb2)
  clear hb2
  simp only []
  go_wp2_with fail
  with_reducible refine (HSM1.out _ HB2.out).mono ?_
  rintro e w3 ⟨rfl, hb3⟩
  have HB3 := hidI (below_step HB2.out hb3)
  clear hb3
  simp only []
  go_wp2_with fail
  have hN : Calls Try.prog 23 #[.int .i64 300] w3 (NwP 300 w3) := new_any 300 w3 (by omega)
  with_reducible refine hN.mono ?_
  rintro e w4 ⟨d, v1, rfl, hD4, hd, hb4⟩
  obtain ⟨bs0, hbs0⟩ : ∃ bs0, bs0 = List.replicate 300 e64 := ⟨_, rfl⟩
  have HJ0 : Hid (Jn bs0 [] 0) := hidI (by rw [hbs0]; exact jn_new 300)
  have HA0 : Hid (All64 bs0) := hidI (by rw [hbs0]; exact all64_new 300)
  have HL0 : Hid (bs0.length = 300) := hidI (by rw [hbs0]; exact List.length_replicate)
  have HE0 : Hid (erL ⟨bs0, [], -1, false⟩ 0 false (bs0.drop 0) = (0, ⟨bs0, [], -1, false⟩)) := hidI (by rw [hbs0]; exact opn_new 300 (-1))
  have HB4 : Hid (Below w.heap.size w w4) := hidI (below_step HB3.out hb4)
  have HD4 : Hid (DT w4 w.heap.size d v1 (.slice none 0 0) ⟨bs0, [], -1, false⟩) := hidI (by rw [hbs0]; exact hD4.lower HB3.out.size)
  have hd4 : w.heap.size ≤ d := Nat.le_trans HB3.out.size hd
  have HO : Hid (Calls Try.prog 43 #[.pointer (some ⟨d, 0, none⟩)] w4 (OpP w.heap.size d v1 (.slice none 0 0) [] 0 (0, ⟨bs0, [], -1, false⟩) w4)) := hidI (by
    have := open_any w.heap.size d v1 (.slice none 0 0) bs0 [] (-1) 0 0 w4 HD4.out (jn_good HA0.out) HB4.out.size (by rw [HL0.out]; omega) (by omega) (HJ0.out.end_ (by rw [HL0.out]; omega))
    rw [HE0.out] at this
    exact this)
  clear hN hD4 hb4 hbs0 hd
  simp only []
  go_wp2_with fail
  with_reducible refine HO.out.mono ?_
  intro e w5 hO5
  obtain ⟨v2, j, vr0, rfl, hB5, hS5, hN5, hF5, hP5⟩ := BJ.openF HB4.out hd4 HD4.out hO5
  obtain ⟨Af, cf, hvf, _⟩ := hS5.slice_
  rw [List.length_nil] at hvf
  subst hvf
  have HK0 : Hid (BK w w5 d j v1 v2 ⟨bs0, [], -1, false⟩ 0 0 (.slice none 0 0) []) := hidI ⟨hB5, Go.Proofs.Kq.Own.nil _ _ _ _ _, fun q hq => by cases hq⟩
  clear hO5 hB5 hS5 hF5 hP5 HO HD4 HE0 hN5 HB1 HB2 HB3 HB0 HB4 hd4
  simp only []
  go_wp2_with fail
  go_loopw [13, 67] (fun kv i wr => ∃ i0 : Nat, i0 ≤ l.length ∧ i = .int .i64 i0 ∧ ∃ (v2 : Value) (bs kept : List ByteArray) (a : Nat), Hid (BK w wr d j v1 v2 ⟨bs, [], -1, false⟩ a kept.length kv kept ∧ Jn bs kept a ∧ All64 bs ∧ bs.length = 300 ∧ kept.length ≤ i0)) (fun _ i _ => l.length - (intOf i).toNat)
  case atStart => exact ⟨0, Nat.zero_le _, rfl, v2, bs0, [], 0, hidI ⟨HK0.out, HJ0.out, HA0.out, HL0.out, Nat.le_refl _⟩⟩
  case round =>
    obtain ⟨i0, hi0, rfl, v2, bs, kept, a, HI⟩ := hrel
    clear HK0 HJ0 HA0 HL0
    obtain ⟨Ak9, ck9, hvk, _⟩ := HI.out.1.S.slice_
    subst hvk
    by_cases hlt : i0 < l.length
    · as_aux_lemma =>
        have hlt' : decide ((i0 : Int) < (l.length : Int)) = true := decide_eq_true (by omega)
        obtain ⟨bq, off, rfl, hcx⟩ := C_strs8 HC0.out (by omega)
        have q := pw_cell_below HI.out.1.P.bel (hcx i0 hlt)
        have hxs := HSZ0.out l[i0] (List.getElem_mem hlt)
        obtain ⟨x, hx⟩ : ∃ x, x = l[i0] := ⟨_, rfl⟩
        rw [← hx] at q hxs
        clear hx hcx
        have hg3 := (apF_good (jn_good HI.out.2.2.1) a kept.length x).b64
        have hAp := jappend_any w.heap.size d j v1 v2 ⟨bs, [], -1, false⟩ a kept.length 300 0 x wr HI.out.1.P.D HI.out.1.P.J (by have := jn_good HI.out.2.2.1; rwa [HI.out.2.2.2.1] at this) HI.out.1.P.bel.size (by omega) (by have := HI.out.2.1.le; rw [HI.out.2.2.2.1] at this; omega) (by have := HI.out.2.2.2.2; omega) (by omega) (by omega)
        obtain ⟨bs3, hst, hl3, hj3, hc3, hlen3⟩ := ap_step HI.out.2.1 x
        generalize apF ⟨bs, [], -1, false⟩ a kept.length x = Y at *
        obtain ⟨r, s3⟩ := Y
        have hst : s3 = ⟨bs3, [], -1, false⟩ := hst
        subst hst
        generalize (packF (kept.length : Int) (bl x)).1.length = len at *
        have HK : Hid (BK w wr d j v1 v2 ⟨bs, [], -1, false⟩ a kept.length (.slice Ak9 kept.length ck9) kept) := hidI HI.out.1
        by_cases hr : r = 0
        · as_aux_lemma =>
            subst hr
            have HST : Hid (Jn bs3 (kept ++ [x]) (apAt (0, (⟨bs3, [], -1, false⟩ : DkS)) a len) ∧ All64 bs3 ∧ bs3.length = 300 ∧ (kept ++ [x]).length ≤ i0 + 1) := hidI ⟨hj3, hg3, hl3.trans HI.out.2.2.2.1, by have := HI.out.2.2.2.2; simp; omega⟩
            have hk30 : kept.length ≤ 1000 := by have := HI.out.2.2.2.2; omega
            clear hj3 hg3 hl3 hc3 hlen3 HI
            go_wp2_with fail
            with_reducible refine hAp.mono ?_
            intro e w7 hA7
            obtain ⟨rfl, v3, hK7⟩ := HK.out.ap hA7
            have HK7 : Hid (BK w w7 d j v1 v3 ⟨bs3, [], -1, false⟩ (apAt (0, (⟨bs3, [], -1, false⟩ : DkS)) a len) (kept.length + 1) (.slice Ak9 kept.length ck9) kept) := hidI hK7
            clear hA7 hK7 hAp HK
            simp only []
            go_wp2_with (at_builtin; refine wpList_append_any _ rfl (.tmp 75) (.tmp 77) 22 rfl w.heap.size 9 i9 (.string ⟨#[]⟩) 1 16 Try.underlying22 hi9 hz90 hz91 hz92 rfl (by decide) (.slice Ak9 kept.length ck9) kept.length (kept.flatMap sl) rfl ?aO (w7.heap.size + 1) (some ⟨w7.heap.size, 0, none⟩) 1 1 [.string x] rfl (reads_one w7 x) ?a1 ?aM ?aB ?aS ?_; (case aO => exact (HK7.out.S).below (below_new (Below.refl _ _) _)); (case a1 => intro q hq; rcases List.mem_singleton.1 hq with rfl; rfl); (case aM => simp only [maxLen]; omega); (case aB => omega); (case aS => simp; have := (HK7.out.P.bel).size; omega); intro v5 w5 hown hg hat; have hO5 := Go.Proofs.Kq.Own.snoc (l := sl) (p := x) hown; obtain ⟨A5, c5, hv5, _⟩ := hO5.slice_; rw [List.length_append, List.length_singleton] at hv5; subst hv5; clear hown)
            have HF : Hid (BK w w5 d j v1 v3 ⟨bs3, [], -1, false⟩ (apAt (0, (⟨bs3, [], -1, false⟩ : DkS)) a len) (kept ++ [x]).length (.slice A5 (kept.length + 1) c5) (kept ++ [x])) := hidI (by rw [List.length_append]; exact HK7.out.app hO5 hg hat)
            clear hO5 hg hat HK7
            go_wp2_with fail
            go_roundw
            · exact ⟨i0 + 1, by omega, by simp, v3, bs3, kept ++ [x], _, hidI ⟨HF.out, HST.out⟩⟩
            · simp [intOf]; omega
        · as_aux_lemma =>
            have hr1 : (r == 0) = false := beq_eq_false_iff_ne.mpr hr
            have hR3 : apR (r, (⟨bs3, [], -1, false⟩ : DkS)) kept x = kept := if_neg hr
            have hC3 : apCnt (r, (⟨bs3, [], -1, false⟩ : DkS)) kept.length = kept.length := if_neg hr
            rw [hR3] at hj3
            have HST : Hid (Jn bs3 kept (apAt (r, (⟨bs3, [], -1, false⟩ : DkS)) a len) ∧ All64 bs3 ∧ bs3.length = 300 ∧ kept.length ≤ i0 + 1) := hidI ⟨hj3, hg3, hl3.trans HI.out.2.2.2.1, by have := HI.out.2.2.2.2; omega⟩
            have HC3 := hidI hC3
            clear hj3 hg3 hl3 hc3 hlen3 HI hR3 hC3 hr
            go_wp2_with fail
            with_reducible refine hAp.mono ?_
            intro e w7 hA7
            obtain ⟨rfl, v3, hK7⟩ := HK.out.ap hA7
            have HF : Hid (BK w w7 d j v1 v3 ⟨bs3, [], -1, false⟩ (apAt (r, (⟨bs3, [], -1, false⟩ : DkS)) a len) kept.length (.slice Ak9 kept.length ck9) kept) := hidI (by have := hK7; rw [HC3.out] at this; exact this)
            clear hA7 hK7 hAp HK HC3
            simp only []
            go_wp2_with fail
            go_roundw
            · exact ⟨i0 + 1, by omega, by simp, v3, bs3, kept, _, hidI ⟨HF.out, HST.out⟩⟩
            · simp [intOf]; omega
    · have hlt' : decide ((i0 : Int) < (l.length : Int)) = false := decide_eq_false (by omega)
      have HRi : Hid (Ri bs kept last 0 a kept.length) := hidI ⟨HI.out.2.2.1, HI.out.2.2.2.1, by have := HI.out.2.2.2.2; omega, hlast2, ⟨kept, a, HI.out.2.1.end_ (by rw [HI.out.2.2.2.1]; omega), .inl rfl⟩, fun _ => ⟨HI.out.2.1, rfl, by have := HI.out.2.2.2.2; omega⟩⟩
      have HK1 : Hid (BK w wr d j v1 v2 ⟨bs, [], -1, false⟩ a kept.length (.slice Ak9 kept.length ck9) kept) := hidI HI.out.1
      clear HI
      go_wp2_with fail
      go_loopw [1, 13, 82] (fun lv kv i wr => ∃ i0 : Nat, i0 ≤ f.length ∧ i = .int .i64 i0 ∧ ∃ (lst : ByteArray) (v2 : Value) (bs kept : List ByteArray) (a cnt : Nat), lv = .string lst ∧ Hid (BK w wr d j v1 v2 ⟨bs, [], -1, false⟩ a cnt kv kept ∧ Ri bs kept lst i0 a cnt)) (fun _ _ i _ => f.length - (intOf i).toNat)
      case atStart => exact ⟨0, Nat.zero_le _, rfl, last, v2, bs, kept, a, kept.length, rfl, hidI ⟨HK1.out, HRi.out⟩⟩
      case round =>
        clear HK1 HRi hlt hlt' hi0
        obtain ⟨i0, hi0, rfl, lst, v2, bs, kept, a, cnt, rfl, HI⟩ := hrel
        obtain ⟨Ak9, ck9, hvk, _⟩ := HI.out.1.S.slice_
        subst hvk
        by_cases hlt : i0 < f.length
        · as_aux_lemma =>
            have hlt' : decide ((i0 : Int) < (f.length : Int)) = true := decide_eq_true (by omega)
            obtain ⟨bq, off, A4, c4, rfl, h0, h1, hl4, hC4⟩ := fail_at HCF.out i0 hlt
            have hin : rd_T84 f (i0 : Int) ∈ f := by
              unfold rd_T84
              rw [Int.toNat_natCast, List.getD_eq_getElem?_getD, List.getElem?_eq_getElem hlt, Option.getD_some]
              exact List.getElem_mem hlt
            have hrng := HOK.out _ hin
            clear hin
            have h0 := pw_cell_below HI.out.1.P.bel h0
            have h1 := pw_cell_below HI.out.1.P.bel h1
            generalize rd_T84 f (i0 : Int) = fa at *
            obtain ⟨fu, ks⟩ := fa
            obtain ⟨hfu, hks⟩ := hrng
            simp only at h0 h1 hl4 hC4 hfu hks
            have HK4 := hidI hC4
            have HKV := hidI hks
            clear hC4 hks
            obtain ⟨fz, hfz⟩ : ∃ fz, fz = fu % 50 := ⟨_, rfl⟩
            have hfz2 : 0 ≤ fz ∧ fz ≤ 49 := by omega
            have HFZ := hidI hfz
            clear hfz
            have HFar : Hid (0 < ks.length → ∀ b off, A4 = some ⟨b, off, none⟩ → b < w.heap.size) := hidI (fun h0 b off e => by
              obtain ⟨b', off', e', hc⟩ := C_ints HK4.out h0
              rw [e] at e'
              cases e'
              exact World.block_lt_of_cell? w _ (hc 0 h0))
            go_wp2_with fail
            have hB : Blk (wr.alloc (.cells #[.int .u8 fu, .slice A4 ks.length c4] 84)) wr.heap.size #[.int .u8 fu, .slice A4 ks.length c4] 84 := Blk.new' rfl
            have HK : Hid (BK w (wr.alloc (.cells #[.int .u8 fu, .slice A4 ks.length c4] 84)) d j v1 v2 ⟨bs, [], -1, false⟩ a cnt (.slice Ak9 kept.length ck9) kept) := hidI (HI.out.1.below (below_new (Below.refl _ _) _))
            have HRI : Hid (Ri bs kept lst i0 a cnt) := hidI HI.out.2
            clear h0 h1 HI
            generalize wr.alloc (.cells #[.int .u8 fu, .slice A4 ks.length c4] 84) = W at *
            generalize wr.heap.size = x at *
            have HB := hidI hB
            clear hB
            rw [← HFZ.out]
            have hF := fail_any w.heap.size d v1 v2 ⟨bs, [], -1, false⟩ fz W HK.out.P.D
            with_reducible refine hF.mono ?_
            intro e w6 hM
            have hX6 := mu_blk HK.out.P.D hM x _ 84 HB.out (by decide) (by decide) (by decide)
            obtain ⟨rfl, v3, hK6⟩ := HK.out.mu hM
            have HK6 : Hid (BK w w6 d j v1 v3 ⟨bs, [], fz, false⟩ a cnt (.slice Ak9 kept.length ck9) kept) := hidI hK6
            have HB6 := hidI hX6
            have HG6 : Hid (Good 300 0 ⟨bs, [], fz, false⟩) := hidI (by rw [← HRI.out.2.1]; exact jn_goodF HRI.out.1 fz (by omega))
            clear hM hK6 hX6 hF HK HB HFZ
            simp only []
            by_cases hi : i0 = 0
            · as_aux_lemma =>
                have hi1 : ((i0 : Int) == 0) = true := by rw [hi]; rfl
                obtain ⟨hJn, hcnt, hk30⟩ := HRI.out.2.2.2.2.2 hi
                subst hcnt
                have hAp := jappend_any w.heap.size d j v1 v3 ⟨bs, [], fz, false⟩ a kept.length 300 0 lst w6 HK6.out.P.D HK6.out.P.J HG6.out HK6.out.P.bel.size (by omega) (by have := hJn.le; rw [HRI.out.2.1] at this; omega) (by omega) (by omega) (by have := HRI.out.2.2.2.1; omega)
                have HTA := hidI (tear_ap hJn HRI.out.1 (by rw [HRI.out.2.1]; omega) (by omega) lst fz ⟨hfz2.1, by omega⟩ ks)
                have HGA : Hid (Good 300 (0 + (packF kept.length (bl lst)).1.length) (apF ⟨bs, [], fz, false⟩ a kept.length lst).2) := hidI (apF_good HG6.out a kept.length lst)
                have HLP : Hid ((packF (kept.length : Int) (bl lst)).1.length ≤ 255) := hidI packF_len
                generalize apF ⟨bs, [], fz, false⟩ a kept.length lst = Y at *
                obtain ⟨r, s3⟩ := Y
                generalize (packF (kept.length : Int) (bl lst)).1.length = len at *
                have HST : Hid (lst.size ≤ 2000 ∧ kept.length ≤ 30) := hidI ⟨HRI.out.2.2.2.1, hk30⟩
                have hbl : Hid (bs.length = 300) := hidI HRI.out.2.1
                clear hi hJn hk30 HRI
                by_cases hr : r = 0
                · as_aux_lemma =>
                    subst hr
                    go_wp2_with fail
                    with_reducible refine hAp.mono ?_
                    intro e w7 hA7
                    obtain ⟨rfl, v4, hK7⟩ := HK6.out.ap hA7
                    have hB7 := ap_blk HK6.out.P.D HK6.out.P.J hA7 x _ 84 HB6.out (by decide) (by decide) (by decide) (by decide)
                    have HK7 : Hid (BK w w7 d j v1 v4 s3 (apAt (0, s3) a len) (apCnt (0, s3) kept.length) (.slice Ak9 kept.length ck9) kept) := hidI hK7
                    have HB7 := hidI hB7
                    have hk30 : kept.length ≤ 30 := HST.out.2
                    clear hA7 hK7 hB7 hAp HK6 HB6
                    simp only []
                    go_wp2_with (at_builtin; refine wpList_append_any _ rfl (.tmp 99) (.tmp 101) 22 rfl w.heap.size 9 i9 (.string ⟨#[]⟩) 1 16 Try.underlying22 hi9 hz90 hz91 hz92 rfl (by decide) (.slice Ak9 kept.length ck9) kept.length (kept.flatMap sl) rfl ?aO (w7.heap.size + 1) (some ⟨w7.heap.size, 0, none⟩) 1 1 [.string lst] rfl (reads_one w7 lst) ?a1 ?aM ?aB ?aS ?_; (case aO => exact (HK7.out.S).below (below_new (Below.refl _ _) _)); (case a1 => intro q hq; rcases List.mem_singleton.1 hq with rfl; rfl); (case aM => simp only [maxLen]; omega); (case aB => omega); (case aS => simp; have := (HK7.out.P.bel).size; omega); intro v5 w5 hown hg hat; have hO5 := Go.Proofs.Kq.Own.snoc (l := sl) (p := lst) hown; obtain ⟨A5, c5, hv5, _⟩ := hO5.slice_; rw [List.length_append, List.length_singleton] at hv5; subst hv5; have x1 : w5.cell? ⟨x, 1, none⟩ = some (.slice A4 ks.length c4) := Blk.c (Blk.gb (Blk.al HB7.out (.cells #[.string lst] 9)) hg (Ne.symm (HK7.out.S.ne HB7.out (by decide)))) 1; clear hown)
                    have HK8 : Hid (BK w w5 d j v1 v4 s3 (apAt (0, s3) a len) (apCnt (0, s3) kept.length) (.slice A5 (kept.length + 1) c5) (kept ++ [lst])) := hidI (HK7.out.app hO5 hg hat)
                    have HB8 : Hid (Blk w5 x #[.int .u8 fu, .slice A4 ks.length c4] 84) := hidI (Blk.gb (Blk.al HB7.out _) hg (Ne.symm (HK7.out.S.ne HB7.out (by decide))))
                    clear hO5 hg hat HK7 HB7
                    obtain ⟨T, hT1, hT2, hT3, hT4, _⟩ := HTA.out
                    obtain ⟨a', hRe⟩ := hT4 (by first | trivial | rfl)
                    have hRs := restart_any w.heap.size d v1 v4 s3 A4 c4 ks w5 HK8.out.P.D HK8.out.P.bel.size (Kd.C_below HK4.out HK8.out.P.bel) HKV.out (fun h0 b off e hk => by have := HFar.out h0 b off e; have := HK8.out.P.ge (.inl hk); omega)
                      (Nat.le_trans HGA.out.few (by have := HLP.out; omega)) (by rw [HGA.out.len]; exact HGA.out.ins) HGA.out.b64 HGA.out.w64
                    have hT1 : rsS s3 ks = ⟨T, [], -1, false⟩ := hT1
                    rw [hT1] at hRs
                    have HR9 : Hid (Ri T (kept ++ [lst]) ⟨#[]⟩ (i0 + 1) (apAt (0, s3) a len) (apCnt (0, s3) kept.length)) := hidI ⟨hT3, hT2.trans hbl.out, by simp; omega, by show 0 ≤ 2000; omega, ⟨_, a', hRe, .inl rfl⟩, fun h => by omega⟩
                    clear hT1 hT2 hT3 hT4 hRe HTA HGA HLP HFar HST hbl HG6
                    with_reducible refine hRs.mono ?_
                    intro e w9 hM
                    obtain ⟨rfl, v5, hK9⟩ := HK8.out.mu hM
                    have HK9 := hidI hK9
                    clear hM hK9 HK8 HB8 x1 hRs
                    simp only []
                    go_wp2_with fail
                    go_roundw
                    · exact ⟨i0 + 1, by omega, by simp, ⟨#[]⟩, v5, T, kept ++ [lst], _, _, rfl, hidI ⟨HK9.out, HR9.out⟩⟩
                    · simp [intOf]; omega
                · as_aux_lemma =>
                    have hr1 : (r == 0) = false := beq_eq_false_iff_ne.mpr hr
                    have HR0 := hidI hr
                    clear hr
                    go_wp2_with fail
                    with_reducible refine hAp.mono ?_
                    intro e w7 hA7
                    obtain ⟨rfl, v4, hK7⟩ := HK6.out.ap hA7
                    have hB7 := ap_blk HK6.out.P.D HK6.out.P.J hA7 x _ 84 HB6.out (by decide) (by decide) (by decide) (by decide)
                    have HK8 : Hid (BK w w7 d j v1 v4 s3 (apAt (r, s3) a len) (apCnt (r, s3) kept.length) (.slice Ak9 kept.length ck9) kept) := hidI hK7
                    have x1 : w7.cell? ⟨x, 1, none⟩ = some (.slice A4 ks.length c4) := Blk.c hB7 1
                    have hk30 : kept.length ≤ 30 := HST.out.2
                    clear hA7 hK7 hB7 hAp HK6 HB6
                    obtain ⟨T, hT1, hT2, hT3, _, hT4⟩ := HTA.out
                    have hRe := hT4 HR0.out
                    have hRs := restart_any w.heap.size d v1 v4 s3 A4 c4 ks w7 HK8.out.P.D HK8.out.P.bel.size (Kd.C_below HK4.out HK8.out.P.bel) HKV.out (fun h0 b off e hk => by have := HFar.out h0 b off e; have := HK8.out.P.ge (.inl hk); omega)
                      (Nat.le_trans HGA.out.few (by have := HLP.out; omega)) (by rw [HGA.out.len]; exact HGA.out.ins) HGA.out.b64 HGA.out.w64
                    have hT1 : rsS s3 ks = ⟨T, [], -1, false⟩ := hT1
                    rw [hT1] at hRs
                    have HR9 : Hid (Ri T kept lst (i0 + 1) (apAt (r, s3) a len) (apCnt (r, s3) kept.length)) := hidI ⟨hT3, hT2.trans hbl.out, by omega, HST.out.1, by
                      rcases hRe with ⟨a', hRe⟩ | ⟨hne, a', hRe⟩
                      · exact ⟨_, a', hRe, .inl rfl⟩
                      · exact ⟨_, a', hRe, .inr ⟨hne, rfl⟩⟩, fun h => by omega⟩
                    clear hT1 hT2 hT3 hT4 hRe HTA HGA HLP HFar HST hbl HG6
                    simp only []
                    go_wp2_with fail
                    with_reducible refine hRs.mono ?_
                    intro e w9 hM
                    obtain ⟨rfl, v5, hK9⟩ := HK8.out.mu hM
                    have HK9 := hidI hK9
                    clear hM hK9 HK8 x1 hRs
                    simp only []
                    go_wp2_with fail
                    go_roundw
                    · exact ⟨i0 + 1, by omega, by simp, lst, v5, T, kept, _, _, rfl, hidI ⟨HK9.out, HR9.out⟩⟩
                    · simp [intOf]; omega
            · as_aux_lemma =>
                have hi1 : ((i0 : Int) == 0) = false := beq_eq_false_iff_ne.mpr (by omega)
                obtain ⟨R, aR, hRe, hRk⟩ := HRI.out.2.2.2.2.1
                have hRlen : R.length ≤ 32 := by
                  have := HRI.out.2.2.1
                  rcases hRk with h | ⟨_, h⟩
                  · rw [h]; omega
                  · rw [h]; simp; omega
                have hO := open_any w.heap.size d v1 v3 bs R fz aR 0 w6 HK6.out.P.D (by rw [HRI.out.2.1]; exact HG6.out) HK6.out.P.bel.size (by rw [HRI.out.2.1]; omega) (by omega) hRe
                obtain ⟨T, hT1, hT2, hT3, hT4⟩ := tear_open hRe HRI.out.1 fz (by omega) (by omega) ks
                have HGA : Hid (Good 300 (0 + (bs.drop aR).length) (erL ⟨bs, [], fz, false⟩ aR false (bs.drop aR)).2) := hidI (erL_good (bs.drop aR) 0 _ aR false HG6.out)
                have HLD : Hid ((bs.drop aR).length ≤ 300) := hidI (by rw [List.length_drop, HRI.out.2.1]; omega)
                generalize erL ⟨bs, [], fz, false⟩ aR false (bs.drop aR) = Y at *
                obtain ⟨r, s3⟩ := Y
                have HR9 : Hid (Ri T kept lst (i0 + 1) a cnt) := hidI ⟨hT4, hT3.trans HRI.out.2.1, HRI.out.2.2.1, HRI.out.2.2.2.1, ⟨R, aR, hT2, hRk⟩, fun h => by omega⟩
                have HT1 : Hid (rsS s3 ks = ⟨T, [], -1, false⟩) := hidI hT1
                clear hi hRe hRk hT1 hT2 hT3 hT4 HRI HG6
                go_wp2_with fail
                with_reducible refine hO.mono ?_
                intro e w7 hO7
                obtain ⟨pj, vr, he, hM7⟩ := OpP.mu hO7
                have hB7 := mu_blk HK6.out.P.D hM7 x _ 84 HB6.out (by decide) (by decide) (by decide)
                obtain ⟨_, v4, hK7⟩ := HK6.out.mu hM7
                subst he
                have HK8 : Hid (BK w w7 d j v1 v4 s3 a cnt (.slice Ak9 kept.length ck9) kept) := hidI hK7
                have x1 : w7.cell? ⟨x, 1, none⟩ = some (.slice A4 ks.length c4) := Blk.c hB7 1
                have hRs := restart_any w.heap.size d v1 v4 s3 A4 c4 ks w7 HK8.out.P.D HK8.out.P.bel.size (Kd.C_below HK4.out HK8.out.P.bel) HKV.out (fun h0 b off e hk => by have := HFar.out h0 b off e; have := HK8.out.P.ge (.inl hk); omega)
                  (Nat.le_trans HGA.out.few (by have := HLD.out; omega)) (by rw [HGA.out.len]; exact HGA.out.ins) HGA.out.b64 HGA.out.w64
                rw [HT1.out] at hRs
                clear hO7 hM7 hK7 hB7 hO HK6 HB6 HGA HLD HFar HT1
                simp only []
                go_wp2_with fail
                with_reducible refine hRs.mono ?_
                intro e w9 hM
                obtain ⟨rfl, v5, hK9⟩ := HK8.out.mu hM
                have HK9 := hidI hK9
                clear hM hK9 HK8 x1 hRs
                simp only []
                go_wp2_with fail
                go_roundw
                · exact ⟨i0 + 1, by omega, by simp, lst, v5, T, kept, _, _, rfl, hidI ⟨HK9.out, HR9.out⟩⟩
                · simp [intOf]; omega
        · have hlt' : decide ((i0 : Int) < (f.length : Int)) = false := decide_eq_false (by omega)
          obtain ⟨h64, h300, hk31, hlsz, ⟨R, aR, hRe, hRk⟩, _⟩ := HI.out.2
          have hRlen : R.length ≤ 32 := by
            rcases hRk with h | ⟨_, h⟩
            · rw [h]; omega
            · rw [h]; simp; omega
          have haR := (hRe.1.le (Nat.zero_le _)).2
          obtain ⟨bs2, hbs2⟩ : ∃ bs2, bs2 = bs.take aR ++ List.replicate (bs.length - aR) e64 := ⟨_, rfl⟩
          have hEr : erL ⟨bs, [], -1, false⟩ aR false (bs.drop aR) = (0, ⟨bs2, [], -1, false⟩) := by rw [hbs2]; exact erL_new (-1) (by omega) bs aR haR
          have HJn : Hid (Jn bs2 R aR) := hidI (by rw [hbs2]; exact jn_cut hRe.1 haR)
          have HL2 : Hid (bs2.length = 300) := hidI (by rw [hbs2, List.length_append, List.length_take, List.length_replicate, h300]; omega)
          have H642 : Hid (All64 bs2) := hidI (by
            have := (erL_good (bs.drop aR) 0 ⟨bs, [], -1, false⟩ aR false (jn_good h64)).b64
            rw [hEr] at this; exact this)
          have HK : Hid (BK w wr d j v1 v2 ⟨bs, [], -1, false⟩ a cnt (.slice Ak9 kept.length ck9) kept) := hidI HI.out.1
          have HRK := hidI hRk
          have hO := open_any w.heap.size d v1 v2 bs R (-1) aR 0 wr HK.out.P.D (jn_good h64) HK.out.P.bel.size (by rw [h300]; omega) (by omega) hRe
          rw [hEr] at hO
          clear HI h64 h300 hRe haR hbs2 hEr hRk
          go_wp2_with fail
          with_reducible refine hO.mono ?_
          intro e w4 hO4
          obtain ⟨v3, j2, vr4, rfl, hB4, hS4, hN4, hF4, hP4⟩ := BJ.openF HK.out.P.bel HK.out.P.hd HK.out.P.D hO4
          obtain ⟨Ar4, cr4, hv4, _⟩ := hS4.slice_
          subst hv4
          have HK4 : Hid (BK w w4 d j2 v1 v3 ⟨bs2, [], -1, false⟩ aR R.length (.slice Ar4 R.length cr4) R) := hidI ⟨hB4, hS4.lower HK.out.P.bel.size, hN4⟩
          have HS4 : Hid (Strs w4 w.heap.size (.slice Ak9 kept.length ck9) kept) := hidI (HK.out.S.fr hF4 (fun q hq hn => HK.out.apart q hq (.inl hn)))
          have HN4 : Hid (∀ q, (Value.slice Ak9 kept.length ck9).ownBlock = some q → ¬ PS d j2 v1 v3 q) := hidI (fun q hq hn => by
            rcases hP4 q hn with h1 | h1
            · exact HK.out.apart q hq (.inl h1)
            · have := HK.out.S.lt hq; omega)
          have hO2 := open_any w.heap.size d v1 v3 bs2 R (-1) aR 0 w4 HK4.out.P.D (jn_good H642.out) HK4.out.P.bel.size (by rw [HL2.out]; omega) (by omega) (HJn.out.end_ (by rw [HL2.out]; omega))
          rw [erL_same _ _ _ (fun y hy => by
              obtain ⟨i, hi, rfl⟩ := List.getElem_of_mem hy
              rw [List.getElem_drop]
              exact HJn.out.zero _ _ (by omega))] at hO2
          clear hO4 hB4 hS4 hN4 hF4 hP4 hO HK
          simp only []
          go_wp2_with fail
          with_reducible refine hO2.mono ?_
          intro e w6 hO6
          obtain ⟨v4, j3, vr6, rfl, hB6, hS6, hN6, hF6, hP6⟩ := BJ.openF HK4.out.P.bel HK4.out.P.hd HK4.out.P.D hO6
          obtain ⟨_, v4', hK6⟩ := HK4.out.mu (OpP.mu hO6).choose_spec.choose_spec.2
          have HK6 : Hid (BK w w6 d j2 v1 v4' ⟨bs2, [], -1, false⟩ aR R.length (.slice Ar4 R.length cr4) R) := hidI hK6
          have HS6 : Hid (Strs w6 w.heap.size (.slice Ak9 kept.length ck9) kept) := hidI (HS4.out.fr hF6 (fun q hq hn => HN4.out q hq (.inl hn)))
          have HS6b := hidI hS6
          have HRL : Hid (R.length ≤ 1000000) := hidI (by omega)
          clear hO6 hB6 hS6 hN6 hF6 hP6 hO2 HK4 HS4 HN4 hK6
          simp only []
          go_wp2_with fail
          with_reducible refine (equal_same _ _ (.slice Ar4 R.length cr4) vr6 R w6 HK6.out.S HS6b.out HRL.out).mono ?_
          rintro e w7 ⟨rfl, m7, hw7⟩
          have hb7 : Below w6.heap.size w6 w7 := by rw [hw7]; exact below_drewN (Below.refl _ _) m7
          have HK7 : Hid (BK w w7 d j2 v1 v4' ⟨bs2, [], -1, false⟩ aR R.length (.slice Ar4 R.length cr4) R) := hidI (HK6.out.below hb7)
          have HS7 : Hid (Strs w7 w.heap.size (.slice Ak9 kept.length ck9) kept) := hidI (HS6.out.below hb7)
          clear hw7 hb7 HK6 HS6 HS6b
          simp only []
          go_wp2_with fail
          rcases HRK.out with hRk | ⟨hne, hRk⟩
          · as_aux_lemma =>
              have HS8 : Hid (Strs w7 w.heap.size (.slice Ak9 kept.length ck9) R) := hidI (by rw [hRk]; exact HS7.out)
              clear hRk HRK HS7
              with_reducible refine (equal_same _ _ (.slice Ar4 R.length cr4) (.slice Ak9 kept.length ck9) R w7 HK7.out.S HS8.out HRL.out).mono ?_
              rintro e w8 ⟨rfl, m8, hw8⟩
              have HK8 : Hid (BK w w8 d j2 v1 v4' ⟨bs2, [], -1, false⟩ aR R.length (.slice Ar4 R.length cr4) R) := hidI (HK7.out.below (by rw [hw8]; exact below_drewN (Below.refl _ _) m8))
              clear hw8 HK7 HS8
              simp only []
              go_wp2_with fail
              go_loopw [19, 154] (fun kv i wr => ∃ i0 : Nat, i0 ≤ m.length ∧ i = .int .i64 i0 ∧ ∃ (v2 : Value) (bs kept : List ByteArray) (a : Nat), Hid (BK w wr d j2 v1 v2 ⟨bs, [], -1, false⟩ a kept.length kv kept ∧ Jn bs kept a ∧ All64 bs ∧ bs.length = 300 ∧ kept.length ≤ 32 + i0)) (fun _ i _ => m.length - (intOf i).toNat)
              case atStart => exact ⟨0, Nat.zero_le _, rfl, v4', bs2, R, aR, hidI ⟨HK8.out, HJn.out, H642.out, HL2.out, by omega⟩⟩
              case round =>
                clear hi0 hlt hlt'
                obtain ⟨i0, hi0, rfl, v2, bs, kept, a, HI⟩ := hrel
                clear HK8 HJn H642 HL2
                obtain ⟨Ak9, ck9, hvk, _⟩ := HI.out.1.S.slice_
                subst hvk
                by_cases hlt : i0 < m.length
                · as_aux_lemma =>
                    have hlt' : decide ((i0 : Int) < (m.length : Int)) = true := decide_eq_true (by omega)
                    obtain ⟨bq, off, rfl, hcx⟩ := C_strs8 HC1.out (by omega)
                    have q := pw_cell_below HI.out.1.P.bel (hcx i0 hlt)
                    have hxs := HSZ1.out m[i0] (List.getElem_mem hlt)
                    obtain ⟨x, hx⟩ : ∃ x, x = m[i0] := ⟨_, rfl⟩
                    rw [← hx] at q hxs
                    clear hx hcx
                    have hg3 := (apF_good (jn_good HI.out.2.2.1) a kept.length x).b64
                    have hAp := jappend_any w.heap.size d j2 v1 v2 ⟨bs, [], -1, false⟩ a kept.length 300 0 x wr HI.out.1.P.D HI.out.1.P.J (by have := jn_good HI.out.2.2.1; rwa [HI.out.2.2.2.1] at this) HI.out.1.P.bel.size (by omega) (by have := HI.out.2.1.le; rw [HI.out.2.2.2.1] at this; omega) (by have := HI.out.2.2.2.2; omega) (by omega) (by omega)
                    obtain ⟨bs3, hst, hl3, hj3, hc3, hlen3⟩ := ap_step HI.out.2.1 x
                    generalize apF ⟨bs, [], -1, false⟩ a kept.length x = Y at *
                    obtain ⟨r, s3⟩ := Y
                    have hst : s3 = ⟨bs3, [], -1, false⟩ := hst
                    subst hst
                    generalize (packF (kept.length : Int) (bl x)).1.length = len at *
                    have HK : Hid (BK w wr d j2 v1 v2 ⟨bs, [], -1, false⟩ a kept.length (.slice Ak9 kept.length ck9) kept) := hidI HI.out.1
                    by_cases hr : r = 0
                    · as_aux_lemma =>
                        subst hr
                        have HST : Hid (Jn bs3 (kept ++ [x]) (apAt (0, (⟨bs3, [], -1, false⟩ : DkS)) a len) ∧ All64 bs3 ∧ bs3.length = 300 ∧ (kept ++ [x]).length ≤ 32 + (i0 + 1)) := hidI ⟨hj3, hg3, hl3.trans HI.out.2.2.2.1, by have := HI.out.2.2.2.2; simp; omega⟩
                        have hk30 : kept.length ≤ 1000 := by have := HI.out.2.2.2.2; omega
                        clear hj3 hg3 hl3 hc3 hlen3 HI
                        go_wp2_with fail
                        with_reducible refine hAp.mono ?_
                        intro e w7 hA7
                        obtain ⟨rfl, v3, hK7⟩ := HK.out.ap hA7
                        have HK7 : Hid (BK w w7 d j2 v1 v3 ⟨bs3, [], -1, false⟩ (apAt (0, (⟨bs3, [], -1, false⟩ : DkS)) a len) (kept.length + 1) (.slice Ak9 kept.length ck9) kept) := hidI hK7
                        clear hA7 hK7 hAp HK
                        simp only []
                        go_wp2_with (at_builtin; refine wpList_append_any _ rfl (.tmp 162) (.tmp 164) 22 rfl w.heap.size 9 i9 (.string ⟨#[]⟩) 1 16 Try.underlying22 hi9 hz90 hz91 hz92 rfl (by decide) (.slice Ak9 kept.length ck9) kept.length (kept.flatMap sl) rfl ?aO (w7.heap.size + 1) (some ⟨w7.heap.size, 0, none⟩) 1 1 [.string x] rfl (reads_one w7 x) ?a1 ?aM ?aB ?aS ?_; (case aO => exact (HK7.out.S).below (below_new (Below.refl _ _) _)); (case a1 => intro q hq; rcases List.mem_singleton.1 hq with rfl; rfl); (case aM => simp only [maxLen]; omega); (case aB => omega); (case aS => simp; have := (HK7.out.P.bel).size; omega); intro v5 w5 hown hg hat; have hO5 := Go.Proofs.Kq.Own.snoc (l := sl) (p := x) hown; obtain ⟨A5, c5, hv5, _⟩ := hO5.slice_; rw [List.length_append, List.length_singleton] at hv5; subst hv5; clear hown)
                        have HF : Hid (BK w w5 d j2 v1 v3 ⟨bs3, [], -1, false⟩ (apAt (0, (⟨bs3, [], -1, false⟩ : DkS)) a len) (kept ++ [x]).length (.slice A5 (kept.length + 1) c5) (kept ++ [x])) := hidI (by rw [List.length_append]; exact HK7.out.app hO5 hg hat)
                        clear hO5 hg hat HK7
                        go_wp2_with fail
                        go_roundw
                        · exact ⟨i0 + 1, by omega, by simp, v3, bs3, kept ++ [x], _, hidI ⟨HF.out, HST.out⟩⟩
                        · simp [intOf]; omega
                    · as_aux_lemma =>
                        have hr1 : (r == 0) = false := beq_eq_false_iff_ne.mpr hr
                        have hR3 : apR (r, (⟨bs3, [], -1, false⟩ : DkS)) kept x = kept := if_neg hr
                        have hC3 : apCnt (r, (⟨bs3, [], -1, false⟩ : DkS)) kept.length = kept.length := if_neg hr
                        rw [hR3] at hj3
                        have HST : Hid (Jn bs3 kept (apAt (r, (⟨bs3, [], -1, false⟩ : DkS)) a len) ∧ All64 bs3 ∧ bs3.length = 300 ∧ kept.length ≤ 32 + (i0 + 1)) := hidI ⟨hj3, hg3, hl3.trans HI.out.2.2.2.1, by have := HI.out.2.2.2.2; omega⟩
                        have HC3 := hidI hC3
                        clear hj3 hg3 hl3 hc3 hlen3 HI hR3 hC3 hr
                        go_wp2_with fail
                        with_reducible refine hAp.mono ?_
                        intro e w7 hA7
                        obtain ⟨rfl, v3, hK7⟩ := HK.out.ap hA7
                        have HF : Hid (BK w w7 d j2 v1 v3 ⟨bs3, [], -1, false⟩ (apAt (r, (⟨bs3, [], -1, false⟩ : DkS)) a len) kept.length (.slice Ak9 kept.length ck9) kept) := hidI (by have := hK7; rw [HC3.out] at this; exact this)
                        clear hA7 hK7 hAp HK HC3
                        simp only []
                        go_wp2_with fail
                        go_roundw
                        · exact ⟨i0 + 1, by omega, by simp, v3, bs3, kept, _, hidI ⟨HF.out, HST.out⟩⟩
                        · simp [intOf]; omega
                · have hlt' : decide ((i0 : Int) < (m.length : Int)) = false := decide_eq_false (by omega)
                  have hO := open_any w.heap.size d v1 v2 bs kept (-1) a 0 wr HI.out.1.P.D (jn_good HI.out.2.2.1) HI.out.1.P.bel.size (by rw [HI.out.2.2.2.1]; omega) (by omega) (HI.out.2.1.end_ (by rw [HI.out.2.2.2.1]; omega))
                  rw [erL_same _ _ _ (fun y hy => by
                      obtain ⟨i, hi, rfl⟩ := List.getElem_of_mem hy
                      rw [List.getElem_drop]
                      exact HI.out.2.1.zero _ _ (by omega))] at hO
                  have HKL : Hid (kept.length ≤ 1000000) := hidI (by have := HI.out.2.2.2.2; omega)
                  have HK : Hid (BK w wr d j2 v1 v2 ⟨bs, [], -1, false⟩ a kept.length (.slice Ak9 kept.length ck9) kept) := hidI HI.out.1
                  clear HI
                  go_wp2_with fail
                  with_reducible refine hO.mono ?_
                  intro e wz hOz
                  obtain ⟨v9, j9, vrz, rfl, hBz, hSz, _, hFz, _⟩ := BJ.openF HK.out.P.bel HK.out.P.hd HK.out.P.D hOz
                  have HSz := hidI hSz
                  have HKz : Hid (Strs wz w.heap.size (.slice Ak9 kept.length ck9) kept) := hidI (HK.out.S.fr hFz (fun q hq hn => HK.out.apart q hq (.inl hn)))
                  have HBz : Hid (Below w.heap.size w wz) := hidI hBz.bel
                  clear hOz hBz hSz hFz hO HK
                  simp only []
                  go_wp2_with fail
                  with_reducible refine (equal_same _ _ vrz (.slice Ak9 kept.length ck9) kept wz HSz.out HKz.out HKL.out).mono ?_
                  rintro e wy ⟨rfl, my, hwy⟩
                  have hfin : Hid (Tru8 w (.returned (.bool true)) wy) := hidI ⟨rfl, by rw [hwy]; exact below_drewN HBz.out my⟩
                  clear hwy
                  simp only []
                  go_wp2_with fail
                  go_ret
                  exact hfin.out
          · as_aux_lemma =>
              have hkl : kept.length + 1 = R.length := by rw [hRk]; simp
              have hls : lst.size ≠ 0 := by rw [ba_size]; exact hne
              have hle1 : (lst.toList == []) = false := by
                rw [beq_eq_false_iff_ne]; intro h; apply hls; rw [ByteArray.toList_eq] at h; rw [ba_size]; unfold bl; rw [h]; rfl
              have hle2 : lst.toList.isEmpty = false := by
                have : lst.toList ≠ [] := by intro h; rw [h] at hle1; simp at hle1
                simpa [List.isEmpty_iff] using this
              have HRk := hidI hRk
              have hklb : kept.length ≤ 40 := by omega
              have HKLN := hidI hkl
              clear hRk HRK hne hls hkl
              with_reducible refine (equal_diff _ _ (.slice Ar4 R.length cr4) (.slice Ak9 kept.length ck9) R kept w7 HK7.out.S HS7.out (by have := HKLN.out; omega)).mono ?_
              rintro e w8 ⟨rfl, m8, hw8⟩
              have hb8 : Below w7.heap.size w7 w8 := by rw [hw8]; exact below_drewN (Below.refl _ _) m8
              have HK8 : Hid (BK w w8 d j2 v1 v4' ⟨bs2, [], -1, false⟩ aR R.length (.slice Ar4 R.length cr4) R) := hidI (HK7.out.below hb8)
              have HS8 : Hid (Strs w8 w.heap.size (.slice Ak9 kept.length ck9) kept) := hidI (HS7.out.below hb8)
              clear hw8 hb8 HK7 HS7
              simp only []
              go_wp2_with fail
              with_reducible refine (clone_own _ _ kept w8 HS8.out (by omega)).mono ?_
              rintro e w10 ⟨vC, rfl, hSC, hb10⟩
              obtain ⟨Ak9, ck9, hvC, _⟩ := hSC.slice_
              subst hvC
              have HK10 : Hid (BK w w10 d j2 v1 v4' ⟨bs2, [], -1, false⟩ aR R.length (.slice Ar4 R.length cr4) R) := hidI (HK8.out.below hb10)
              have HSC : Hid (BK w w10 d j2 v1 v4' ⟨bs2, [], -1, false⟩ aR R.length (.slice Ak9 kept.length ck9) kept) := hidI ⟨HK10.out.P, hSC.lower HK8.out.P.bel.size, fun q hq hn => by have h1 := hSC.ge hq; have h2 := HK8.out.P.lt hn; omega⟩
              have HSD : Hid (∀ q, (Value.slice Ar4 R.length cr4).ownBlock = some q → (Value.slice Ak9 kept.length ck9).ownBlock ≠ some q) := hidI (fun q hq hn => by have h1 := HK8.out.S.lt hq; have h2 := hSC.ge hn; omega)
              clear hSC hb10 HK8 HS8
              simp only []
              go_wp2_with (refine wpList_append_anyG _ (by rfl) (.tmp 144) (.tmp 146) 22 rfl w.heap.size 9 i9 (.string ⟨#[]⟩) 1 16 Try.underlying22 hi9 hz90 hz91 hz92 rfl (by decide) (.slice Ak9 kept.length ck9) kept.length (kept.flatMap sl) rfl ?aO (w10.heap.size + 1) (some ⟨w10.heap.size, 0, none⟩) 1 1 [.string lst] rfl (reads_one w10 lst) ?a1 ?aM ?aB ?aS ?_; (case aO => exact (HSC.out.S).below (below_new (Below.refl _ _) _)); (case a1 => intro q hq; rcases List.mem_singleton.1 hq with rfl; rfl); (case aM => simp only [maxLen]; omega); (case aB => omega); (case aS => simp; have := (HSC.out.P.bel).size; omega); intro v5 w5 hown hg hat; have hO5 := Go.Proofs.Kq.Own.snoc (l := sl) (p := lst) hown; obtain ⟨A5, c5, hv5, _⟩ := hO5.slice_; rw [List.length_append, List.length_singleton] at hv5; subst hv5; clear hown)
              have HSE : Hid (Strs w5 w.heap.size (.slice A5 (kept.length + 1) c5) R) := hidI (by rw [HRk.out]; exact hO5)
              have HKF : Hid (BK w w5 d j2 v1 v4' ⟨bs2, [], -1, false⟩ aR R.length (.slice A5 (kept.length + 1) c5) (kept ++ [lst])) := hidI (HSC.out.app hO5 hg hat)
              have HKE : Hid (BK w w5 d j2 v1 v4' ⟨bs2, [], -1, false⟩ aR R.length (.slice Ar4 R.length cr4) R) := hidI ⟨HKF.out.P, HK10.out.S.fr (S := fun q => (Value.slice Ak9 kept.length ck9).ownBlock = some q) (((Fr.refl _ w10).alloc _).grown hg (fun b e _ => e)) (fun q hq hn => HSD.out q hq hn), HK10.out.apart⟩
              clear hO5 hg hat HK10 HSC HSD HKF
              go_wp2_with fail
              with_reducible refine (equal_same _ _ (.slice Ar4 R.length cr4) (.slice A5 (kept.length + 1) c5) R w5 HKE.out.S HSE.out HRL.out).mono ?_
              rintro e w8 ⟨rfl, m8, hw8⟩
              have HK8 : Hid (BK w w8 d j2 v1 v4' ⟨bs2, [], -1, false⟩ aR R.length (.slice Ar4 R.length cr4) R) := hidI (HKE.out.below (by rw [hw8]; exact below_drewN (Below.refl _ _) m8))
              clear hw8 HKE HSE HKLN HRk hklb
              simp only []
              go_wp2_with fail
              go_loopw [19, 154] (fun kv i wr => ∃ i0 : Nat, i0 ≤ m.length ∧ i = .int .i64 i0 ∧ ∃ (v2 : Value) (bs kept : List ByteArray) (a : Nat), Hid (BK w wr d j2 v1 v2 ⟨bs, [], -1, false⟩ a kept.length kv kept ∧ Jn bs kept a ∧ All64 bs ∧ bs.length = 300 ∧ kept.length ≤ 32 + i0)) (fun _ i _ => m.length - (intOf i).toNat)
              case atStart => exact ⟨0, Nat.zero_le _, rfl, v4', bs2, R, aR, hidI ⟨HK8.out, HJn.out, H642.out, HL2.out, by omega⟩⟩
              case round =>
                clear hi0 hlt hlt'
                obtain ⟨i0, hi0, rfl, v2, bs, kept, a, HI⟩ := hrel
                clear HK8 HJn H642 HL2
                obtain ⟨Ak9, ck9, hvk, _⟩ := HI.out.1.S.slice_
                subst hvk
                by_cases hlt : i0 < m.length
                · as_aux_lemma =>
                    have hlt' : decide ((i0 : Int) < (m.length : Int)) = true := decide_eq_true (by omega)
                    obtain ⟨bq, off, rfl, hcx⟩ := C_strs8 HC1.out (by omega)
                    have q := pw_cell_below HI.out.1.P.bel (hcx i0 hlt)
                    have hxs := HSZ1.out m[i0] (List.getElem_mem hlt)
                    obtain ⟨x, hx⟩ : ∃ x, x = m[i0] := ⟨_, rfl⟩
                    rw [← hx] at q hxs
                    clear hx hcx
                    have hg3 := (apF_good (jn_good HI.out.2.2.1) a kept.length x).b64
                    have hAp := jappend_any w.heap.size d j2 v1 v2 ⟨bs, [], -1, false⟩ a kept.length 300 0 x wr HI.out.1.P.D HI.out.1.P.J (by have := jn_good HI.out.2.2.1; rwa [HI.out.2.2.2.1] at this) HI.out.1.P.bel.size (by omega) (by have := HI.out.2.1.le; rw [HI.out.2.2.2.1] at this; omega) (by have := HI.out.2.2.2.2; omega) (by omega) (by omega)
                    obtain ⟨bs3, hst, hl3, hj3, hc3, hlen3⟩ := ap_step HI.out.2.1 x
                    generalize apF ⟨bs, [], -1, false⟩ a kept.length x = Y at *
                    obtain ⟨r, s3⟩ := Y
                    have hst : s3 = ⟨bs3, [], -1, false⟩ := hst
                    subst hst
                    generalize (packF (kept.length : Int) (bl x)).1.length = len at *
                    have HK : Hid (BK w wr d j2 v1 v2 ⟨bs, [], -1, false⟩ a kept.length (.slice Ak9 kept.length ck9) kept) := hidI HI.out.1
                    by_cases hr : r = 0
                    · as_aux_lemma =>
                        subst hr
                        have HST : Hid (Jn bs3 (kept ++ [x]) (apAt (0, (⟨bs3, [], -1, false⟩ : DkS)) a len) ∧ All64 bs3 ∧ bs3.length = 300 ∧ (kept ++ [x]).length ≤ 32 + (i0 + 1)) := hidI ⟨hj3, hg3, hl3.trans HI.out.2.2.2.1, by have := HI.out.2.2.2.2; simp; omega⟩
                        have hk30 : kept.length ≤ 1000 := by have := HI.out.2.2.2.2; omega
                        clear hj3 hg3 hl3 hc3 hlen3 HI
                        go_wp2_with fail
                        with_reducible refine hAp.mono ?_
                        intro e w7 hA7
                        obtain ⟨rfl, v3, hK7⟩ := HK.out.ap hA7
                        have HK7 : Hid (BK w w7 d j2 v1 v3 ⟨bs3, [], -1, false⟩ (apAt (0, (⟨bs3, [], -1, false⟩ : DkS)) a len) (kept.length + 1) (.slice Ak9 kept.length ck9) kept) := hidI hK7
                        clear hA7 hK7 hAp HK
                        simp only []
                        go_wp2_with (at_builtin; refine wpList_append_any _ rfl (.tmp 162) (.tmp 164) 22 rfl w.heap.size 9 i9 (.string ⟨#[]⟩) 1 16 Try.underlying22 hi9 hz90 hz91 hz92 rfl (by decide) (.slice Ak9 kept.length ck9) kept.length (kept.flatMap sl) rfl ?aO (w7.heap.size + 1) (some ⟨w7.heap.size, 0, none⟩) 1 1 [.string x] rfl (reads_one w7 x) ?a1 ?aM ?aB ?aS ?_; (case aO => exact (HK7.out.S).below (below_new (Below.refl _ _) _)); (case a1 => intro q hq; rcases List.mem_singleton.1 hq with rfl; rfl); (case aM => simp only [maxLen]; omega); (case aB => omega); (case aS => simp; have := (HK7.out.P.bel).size; omega); intro v5 w5 hown hg hat; have hO5 := Go.Proofs.Kq.Own.snoc (l := sl) (p := x) hown; obtain ⟨A5, c5, hv5, _⟩ := hO5.slice_; rw [List.length_append, List.length_singleton] at hv5; subst hv5; clear hown)
                        have HF : Hid (BK w w5 d j2 v1 v3 ⟨bs3, [], -1, false⟩ (apAt (0, (⟨bs3, [], -1, false⟩ : DkS)) a len) (kept ++ [x]).length (.slice A5 (kept.length + 1) c5) (kept ++ [x])) := hidI (by rw [List.length_append]; exact HK7.out.app hO5 hg hat)
                        clear hO5 hg hat HK7
                        go_wp2_with fail
                        go_roundw
                        · exact ⟨i0 + 1, by omega, by simp, v3, bs3, kept ++ [x], _, hidI ⟨HF.out, HST.out⟩⟩
                        · simp [intOf]; omega
                    · as_aux_lemma =>
                        have hr1 : (r == 0) = false := beq_eq_false_iff_ne.mpr hr
                        have hR3 : apR (r, (⟨bs3, [], -1, false⟩ : DkS)) kept x = kept := if_neg hr
                        have hC3 : apCnt (r, (⟨bs3, [], -1, false⟩ : DkS)) kept.length = kept.length := if_neg hr
                        rw [hR3] at hj3
                        have HST : Hid (Jn bs3 kept (apAt (r, (⟨bs3, [], -1, false⟩ : DkS)) a len) ∧ All64 bs3 ∧ bs3.length = 300 ∧ kept.length ≤ 32 + (i0 + 1)) := hidI ⟨hj3, hg3, hl3.trans HI.out.2.2.2.1, by have := HI.out.2.2.2.2; omega⟩
                        have HC3 := hidI hC3
                        clear hj3 hg3 hl3 hc3 hlen3 HI hR3 hC3 hr
                        go_wp2_with fail
                        with_reducible refine hAp.mono ?_
                        intro e w7 hA7
                        obtain ⟨rfl, v3, hK7⟩ := HK.out.ap hA7
                        have HF : Hid (BK w w7 d j2 v1 v3 ⟨bs3, [], -1, false⟩ (apAt (r, (⟨bs3, [], -1, false⟩ : DkS)) a len) kept.length (.slice Ak9 kept.length ck9) kept) := hidI (by have := hK7; rw [HC3.out] at this; exact this)
                        clear hA7 hK7 hAp HK HC3
                        simp only []
                        go_wp2_with fail
                        go_roundw
                        · exact ⟨i0 + 1, by omega, by simp, v3, bs3, kept, _, hidI ⟨HF.out, HST.out⟩⟩
                        · simp [intOf]; omega
                · have hlt' : decide ((i0 : Int) < (m.length : Int)) = false := decide_eq_false (by omega)
                  have hO := open_any w.heap.size d v1 v2 bs kept (-1) a 0 wr HI.out.1.P.D (jn_good HI.out.2.2.1) HI.out.1.P.bel.size (by rw [HI.out.2.2.2.1]; omega) (by omega) (HI.out.2.1.end_ (by rw [HI.out.2.2.2.1]; omega))
                  rw [erL_same _ _ _ (fun y hy => by
                      obtain ⟨i, hi, rfl⟩ := List.getElem_of_mem hy
                      rw [List.getElem_drop]
                      exact HI.out.2.1.zero _ _ (by omega))] at hO
                  have HKL : Hid (kept.length ≤ 1000000) := hidI (by have := HI.out.2.2.2.2; omega)
                  have HK : Hid (BK w wr d j2 v1 v2 ⟨bs, [], -1, false⟩ a kept.length (.slice Ak9 kept.length ck9) kept) := hidI HI.out.1
                  clear HI
                  go_wp2_with fail
                  with_reducible refine hO.mono ?_
                  intro e wz hOz
                  obtain ⟨v9, j9, vrz, rfl, hBz, hSz, _, hFz, _⟩ := BJ.openF HK.out.P.bel HK.out.P.hd HK.out.P.D hOz
                  have HSz := hidI hSz
                  have HKz : Hid (Strs wz w.heap.size (.slice Ak9 kept.length ck9) kept) := hidI (HK.out.S.fr hFz (fun q hq hn => HK.out.apart q hq (.inl hn)))
                  have HBz : Hid (Below w.heap.size w wz) := hidI hBz.bel
                  clear hOz hBz hSz hFz hO HK
                  simp only []
                  go_wp2_with fail
                  with_reducible refine (equal_same _ _ vrz (.slice Ak9 kept.length ck9) kept wz HSz.out HKz.out HKL.out).mono ?_
                  rintro e wy ⟨rfl, my, hwy⟩
                  have hfin : Hid (Tru8 w (.returned (.bool true)) wy) := hidI ⟨rfl, by rw [hwy]; exact below_drewN HBz.out my⟩
                  clear hwy
                  simp only []
                  go_wp2_with fail
                  go_ret
                  exact hfin.out
end Go.Proofs.Ytckfkbmefdmedaa
namespace Go.Proofs.Rk
open Go.ChangeShapes Go.WideShapes Go.ChangeAt Go.RowKit Go.Proofs.YtckfkbmefdmedaaW.PrintWords
set_option linter.unusedVariables false
set_option linter.unusedSimpArgs false
def RdK (P : Program) (t : TypeId) {α : Type} (κ : Kd α) (ok : α → Prop) : Prop :=
  ∀ {H : Type} {enc : TypeId × Value → H} {w : World} {base : Nat} {spare : Nat → Bool} {held : Bool} {fuel : Nat} {cs : List Value} {x : DataW H × List MemPlace},
    DataW.trod enc P w base spare held fuel t cs = some x → (∀ n ∈ x.1.weights P t, n ≤ reachBytes) → ∃ a, κ.K w a cs ∧ ok a
section
variable {P : Program}
theorem RdK.int {t : TypeId} {k : IntKind} (h : P.underlying t = some (.int k)) : RdK P t (Kd.int k) (fun n => (Lit.int k n).wf = true) := by
  intro H enc w base spare held fuel cs x h' _
  obtain ⟨n, rfl, _, hw⟩ := DataW.trod_int h h'
  exact ⟨n, rfl, hw⟩
theorem RdK.bool {t : TypeId} (h : P.underlying t = some .bool) : RdK P t Kd.bool (fun _ => True) := by
  intro H enc w base spare held fuel cs x h' _
  obtain ⟨b, rfl, _⟩ := DataW.trod_bool h h'
  exact ⟨b, rfl, trivial⟩
theorem RdK.str {t : TypeId} (h : P.underlying t = some .string) : RdK P t Kd.string (fun s => s.size ≤ 140737488351232) := by
  intro H enc w base spare held fuel cs x h' hw
  obtain ⟨s, rfl, rfl, _⟩ := DataW.trod_string h h'
  refine ⟨s, rfl, ?_⟩
  have := hw s.data.toList.length (by simp [DataW.weights])
  simpa [reachBytes] using this
theorem weightsAll_mem {H : Type} {e : TypeId} : ∀ {l : List (DataW H)} {d : DataW H} {n : Nat}, d ∈ l → n ∈ d.weights P e → n ∈ DataW.weightsAll P e l
  | [], _, _, h, _ => by simp at h
  | x :: l, d, n, h, hn => by
    simp only [DataW.weightsAll, List.mem_append]
    rcases List.mem_cons.1 h with rfl | h
    · exact .inl hn
    · exact .inr (weightsAll_mem h hn)
theorem RdK.slice {t e : TypeId} {α : Type} {κ : Kd α} {ok : α → Prop} (hr : RdK P e κ ok) (q : Nat) {C B : Nat} (hC : P.cellsOf e = C) (hC' : C = κ.sz) (hB : P.bytesOf e = B) (ht : P.underlying t = some (.slice e)) :
    RdK P t (Kd.slice q κ) (fun xs => (∀ x ∈ xs, ok x) ∧ xs.length * B ≤ 140737488351232) := by
  intro H enc w base spare held fuel cs x h' hw
  subst hC'
  rcases DataW.trod_slice ht h' with ⟨rfl, _⟩ | ⟨a, l, c, elems, rest, n, _, rfl, hx, hb, hlc, hcm, hel, hi, _⟩
  · exact ⟨[], ⟨none, 0, rfl, Nat.le_refl _, rfl, by simp, fun h => absurd h (by simp)⟩, fun x hx => by simp at hx, by simp⟩
  · subst hx
    have hwe : ∀ (i : Nat) (h : i < elems.length), ∀ n ∈ (elems[i]).1.weights P e, n ≤ reachBytes := by
      intro i h n hn
      refine hw n ?_
      simp only [DataW.weights, ht, List.mem_cons, List.mem_append]
      exact .inr (.inl (weightsAll_mem (List.mem_map.2 ⟨_, List.getElem_mem h, rfl⟩) hn))
    have hlb : l * B ≤ 140737488351232 := by
      have h1 := hw ((elems.length + rest.length) * P.bytesOf e) (by simp [DataW.weights, ht])
      have h2 := Nat.mul_le_mul_right (P.bytesOf e) (Nat.le_add_right elems.length rest.length)
      rw [hB] at h1 h2
      rw [hel] at h2 h1
      have h3 := Nat.le_trans h2 h1
      simpa [reachBytes] using h3
    obtain ⟨xs, hxl, hxs⟩ := list_of (Q := fun i (x : α) => ok x ∧ ∃ cs : List Value, κ.K w x cs ∧ ∀ (j : Nat) (v : Value), cs[j]? = some v → w.cell? (a.add (i * κ.sz + j)) = some v) l (fun i hlt => by
      have h1 := hi i hlt
      rw [List.getElem?_eq_getElem (by omega)] at h1
      obtain ⟨cs, hcs, htr⟩ := Option.bind_eq_some_iff.1 h1
      obtain ⟨x, hK, hok⟩ := hr htr (hwe i (by omega))
      obtain ⟨_, hl, hat⟩ := World.cells?_some hcs
      refine ⟨x, hok, cs, hK, fun j v hj => ?_⟩
      have hjl : j < P.cellsOf e := by
        rw [← hl]; exact (List.getElem?_eq_some_iff.1 hj).1
      have := hat j hjl
      rw [hj, hC] at this
      rw [add_add] at this
      exact this)
    have hcm' : c ≤ 9223372036854775807 := hcm
    subst hxl
    refine ⟨xs, ⟨some a, c, rfl, hlc, rfl, by omega, fun _ => ⟨a, rfl, fun j p hj => ?_⟩⟩, fun x hx => ?_, hlb⟩
    · obtain ⟨hjl, rfl⟩ := List.getElem?_eq_some_iff.1 hj
      obtain ⟨_, cs, hK, hc⟩ := hxs j hjl
      exact ⟨cs, κ.K_len hK, hK, hc⟩
    · obtain ⟨i, hlt, rfl⟩ := List.getElem_of_mem hx
      exact (hxs i hlt).1
variable {H : Type} {enc : TypeId × Value → H} {w : World} {base : Nat} {spare : Nat → Bool} {held : Bool}
theorem fldx {fs : Array Field} {n : Nat} {cs : List Value} {xs : List (DataW H × List MemPlace)}
    (hg : ∀ (i : Nat) (f : Field), fs[i]? = some f → DataW.trod enc P w base spare held n f.type ((cs.drop f.offset).take (P.cellsOf f.type)) = xs[i]?) (hxl : xs.length = fs.size)
    (i : Nat) (f : Field) (hf : fs[i]? = some f) (t off k : Nat) (ht : f.type = t) (ho : f.offset = off) (hk : P.cellsOf t = k) :
    ∃ x, xs[i]? = some x ∧ DataW.trod enc P w base spare held n t ((cs.drop off).take k) = some x ∧ ∀ m ∈ x.1.weights P t, m ∈ DataW.weightsEach P (fs.toList.map (·.type)) (xs.map (·.1)) := by
  have h := hg i f hf
  rw [ht, ho, hk] at h
  have hi : i < xs.length := by rw [hxl]; exact (Array.getElem?_eq_some_iff.1 hf).1
  refine ⟨_, List.getElem?_eq_getElem hi, h.trans (List.getElem?_eq_getElem hi), fun m hm => ?_⟩
  refine DataW.weights_mem_each (j := i) (t := t) (d := xs[i].1) ?_ ?_ m hm
  · rw [List.getElem?_map]
    have : fs.toList[i]? = some f := by rw [Array.getElem?_toList]; exact hf
    rw [this]; simp [ht]
  · rw [List.getElem?_map, List.getElem?_eq_getElem hi]; rfl
theorem weights_agg {t : TypeId} {fs : Array Field} {parts : List (DataW H)} (ht : P.underlying t = some (.struct fs)) : (DataW.agg parts).weights P t = DataW.weightsEach P (fs.toList.map (·.type)) parts := by simp only [DataW.weights, ht]
theorem weights_at {ts : List TypeId} {ds : List (DataW H)} (hsz : (DataW.weightsEach P ts ds).all (· ≤ reachBytes) = true) {j : Nat} {t : TypeId} {d : DataW H} (ht : ts[j]? = some t) (hd : ds[j]? = some d) : ∀ n ∈ d.weights P t, n ≤ reachBytes := fun n hn => by
  have := List.all_eq_true.1 hsz _ (DataW.weights_mem_each ht hd n hn)
  simpa using this
theorem arg_slice {t : TypeId} {α : Type} {κ : Kd α} {q : Nat} {ok' : List α → Prop} (hr : RdK P t (Kd.slice q κ) ok') {ts : List TypeId} {ds : List (DataW H)} (hsz : (DataW.weightsEach P ts ds).all (· ≤ reachBytes) = true) {j : Nat} {d : DataW H} {ps : List MemPlace} (ht : ts[j]? = some t) (hd : ds[j]? = some d)
    {ad : Option Addr} {len cap : Nat} (h : DataW.Trod enc P w base spare held t (.slice ad len cap) d ps) : ∃ xs : List α, len = xs.length ∧ xs.length ≤ cap ∧ Kd.C κ w ad xs.length xs ∧ ok' xs := by
  obtain ⟨fuel, hf⟩ := h
  obtain ⟨xs, ⟨A, c, e, hc, hC⟩, ho⟩ := hr hf (weights_at hsz ht hd)
  simp [Value.cells] at e
  obtain ⟨rfl, rfl, rfl⟩ := e
  exact ⟨xs, rfl, hc, hC, ho⟩
theorem arg_any {t : TypeId} {α : Type} {κ : Kd α} {ok : α → Prop} (hr : RdK P t κ ok) {ts : List TypeId} {ds : List (DataW H)} (hsz : (DataW.weightsEach P ts ds).all (· ≤ reachBytes) = true) {j : Nat} {d : DataW H} {ps : List MemPlace} (ht : ts[j]? = some t) (hd : ds[j]? = some d)
    {v : Value} (h : DataW.Trod enc P w base spare held t v d ps) : ∃ a : α, κ.K w a v.cells.toList ∧ ok a := by
  obtain ⟨fuel, hf⟩ := h
  exact hr hf (weights_at hsz ht hd)
end
end Go.Proofs.Rk
namespace Go.Proofs.Ytckfkbmefdmedaa
open Go.RowKit Go.Proofs.Rk Go.Proofs.YtckfkbmefdmedaaW.PrintWords Go.Proofs.Ytckfkbmefdmedaa.Q
set_option linter.unusedVariables false
set_option linter.unusedSimpArgs false
theorem lenk_84 {cs : List Value} (h : cs.length = 2) : ∃ c0 c1, cs = [c0, c1] := by
  match cs, h with
  | [c0, c1], _ => exact ⟨c0, c1, rfl⟩
def okk84 (a : S84) : Prop := (fun n => (Lit.int .u8 n).wf = true) a.f0 ∧ (fun xs => (∀ x ∈ xs, (fun n => (Lit.int .u8 n).wf = true) x) ∧ xs.length * 1 ≤ 140737488351232) a.f1
theorem rdk84 : RdK Try.prog 84 k84 okk84 := by
  intro H enc w base spare held fuel cs x h hw
  obtain ⟨xs, m, _, hx, hlen, hxl, hg⟩ := DataW.trod_struct Try.underlying84 h
  have e : (DataW.agg (xs.map (·.1))).weights Try.prog 84 = DataW.weightsEach Try.prog [5, 42] (xs.map (·.1)) := weights_agg Try.underlying84
  have hx1 : x.1 = DataW.agg (xs.map (·.1)) := congrArg Prod.fst hx
  rw [hx1, e] at hw
  have hw2 := hw
  clear e hx1 hx
  have hlen' : cs.length = 2 := hlen.trans (by kernel_rfl)
  clear hlen h hw
  obtain ⟨c0, c1, rfl⟩ := lenk_84 hlen'
  clear hlen'
  obtain ⟨x0, _, g0, u0⟩ := fldx hg hxl 0 _ rfl 5 0 1 rfl rfl (by kernel_rfl)
  obtain ⟨a0, K0, o0⟩ := (RdK.int Try.underlying5) g0 (fun m hm => hw2 m (u0 m hm))
  obtain ⟨x1, _, g1, u1⟩ := fldx hg hxl 1 _ rfl 42 1 1 rfl rfl (by kernel_rfl)
  obtain ⟨a1, K1, o1⟩ := (RdK.slice (RdK.int Try.underlying5) 5 (C := 1) (B := 1) (by kernel_rfl) rfl (by kernel_rfl) Try.underlying42) g1 (fun m hm => hw2 m (u1 m hm))
  exact ⟨⟨a0, a1⟩, ⟨_, _, rfl, K0, K1⟩, ⟨o0, o1⟩⟩
end Go.Proofs.Ytckfkbmefdmedaa
namespace Go.Proofs.Ytckfkbmefdmedaa
open Go.RowKit Go.Proofs.Rk Go.Proofs.YtckfkbmefdmedaaW.PrintWords Go.Proofs.Ytckfkbmefdmedaa.Q
set_option linter.unusedVariables false
set_option linter.unusedSimpArgs false
structure S81 where
  f0 : List ByteArray
  f1 : List ByteArray
def k81 : Kd S81 := Kd.iso (Kd.pair (Kd.slice 9 Kd.string) (Kd.slice 9 Kd.string)) (fun x : S81 => (x.f0, x.f1))
theorem k81_open {w : World} {x : S81} {cs : List Value} (h : k81.K w x cs) : ∃ A0 c0 A1 c1, cs = [.slice A0 x.f0.length c0, .slice A1 x.f1.length c1] ∧ x.f0.length ≤ c0 ∧ Kd.string.C w A0 x.f0.length x.f0 ∧ x.f1.length ≤ c1 ∧ Kd.string.C w A1 x.f1.length x.f1 := by
  obtain ⟨_, _, rfl, ⟨A0, c0, rfl, l0, g0⟩, ⟨A1, c1, rfl, l1, g1⟩⟩ := h
  exact ⟨A0, c0, A1, c1, rfl, l0, g0, l1, g1⟩
def okk81 (a : S81) : Prop := ((∀ x ∈ a.f0, x.size ≤ 140737488351232) ∧ a.f0.length * 16 ≤ 140737488351232) ∧ ((∀ x ∈ a.f1, x.size ≤ 140737488351232) ∧ a.f1.length * 16 ≤ 140737488351232)
theorem weights_arr {H : Type} {P : Program} {t e : TypeId} {n : Nat} {parts : List (DataW H)} (ht : P.underlying t = some (.array n e)) : (DataW.agg parts).weights P t = DataW.weightsAll P e parts := by simp only [DataW.weights, ht]
theorem two_len {cs : List Value} (h : cs.length = 2) : ∃ c0 c1, cs = [c0, c1] := by
  match cs, h with
  | [c0, c1], _ => exact ⟨c0, c1, rfl⟩
theorem cells22 : Try.prog.cellsOf 22 = 1 := by kernel_rfl
set_option maxRecDepth 10000 in
theorem rdk81 : RdK Try.prog 81 k81 okk81 := by
  intro H enc w base spare held fuel cs x h hw
  obtain ⟨xs, m, _, hx, hlen, hxl, hg⟩ := DataW.trod_array Try.underlying81 h
  have e : (DataW.agg (xs.map (·.1))).weights Try.prog 81 = DataW.weightsAll Try.prog 22 (xs.map (·.1)) := weights_arr Try.underlying81
  have hx1 : x.1 = DataW.agg (xs.map (·.1)) := congrArg Prod.fst hx
  rw [hx1, e] at hw
  have hw2 := hw
  clear e hx1 hx
  have hlen' : cs.length = 2 := hlen.trans (by kernel_rfl)
  clear hlen h hw
  obtain ⟨c0, c1, rfl⟩ := two_len hlen'
  clear hlen'
  have h0 := hg 0 (by decide)
  have h1 := hg 1 (by decide)
  simp only [cells22] at h0 h1
  have i0 : 0 < xs.length := by rw [hxl]; decide
  have i1 : 1 < xs.length := by rw [hxl]; decide
  rw [List.getElem?_eq_getElem i0] at h0
  rw [List.getElem?_eq_getElem i1] at h1
  have m0 : ∀ n ∈ (xs[0].1).weights Try.prog 22, n ≤ reachBytes := fun n hn => hw2 n (weightsAll_mem (List.mem_map.2 ⟨_, List.getElem_mem i0, rfl⟩) hn)
  have m1 : ∀ n ∈ (xs[1].1).weights Try.prog 22, n ≤ reachBytes := fun n hn => hw2 n (weightsAll_mem (List.mem_map.2 ⟨_, List.getElem_mem i1, rfl⟩) hn)
  obtain ⟨a0, K0, o0⟩ := (RdK.slice (RdK.str Try.underlying9) 9 (C := 1) (B := 16) (by kernel_rfl) rfl (by kernel_rfl) Try.underlying22) h0 m0
  obtain ⟨a1, K1, o1⟩ := (RdK.slice (RdK.str Try.underlying9) 9 (C := 1) (B := 16) (by kernel_rfl) rfl (by kernel_rfl) Try.underlying22) h1 m1
  exact ⟨⟨a0, a1⟩, ⟨_, _, rfl, K0, K1⟩, ⟨o0, o1⟩⟩
theorem walk10 (a0 : S81) (cs0 : Array Value) (a1 : ByteArray) (a2 : Option Addr) (xs : List S84) (c2 : Nat) (w : World) (K0 : k81.K w a0 cs0.toList) (o0 : okk81 a0) (o1 : a1.size ≤ 140737488351232) (l2 : xs.length ≤ c2) (h2 : Kd.C k84 w a2 xs.length xs) (y2 : (∀ x ∈ xs, okk84 x) ∧ xs.length * 32 ≤ 140737488351232) :
    Calls Try.prog 10 #[.agg cs0, .string a1, .slice a2 xs.length c2] w fun e w' => e = .returned (.bool true) ∧ Below w.heap.size w w' := by
  obtain ⟨A0, c0, A1, c1, e, l0, g0, l1, g1⟩ := k81_open K0
  obtain rfl : cs0 = #[.slice A0 a0.f0.length c0, .slice A1 a0.f1.length c1] := Array.toList_inj.1 e
  exact jfails_any A0 A1 a2 c0 c1 c2 a0.f0 a0.f1 a1 xs w g0 l0 (by have := o0.1.2; omega) o0.1.1 g1 l1 (by have := o0.2.2; omega) o0.2.1 h2 (by have := y2.2; omega) (fun x hx => by
    obtain ⟨p0, p1, p2⟩ := y2.1 x hx
    exact ⟨bounds_u8 p0, fun k hk => bounds_u8 (p1 k hk)⟩) o1
end Go.Proofs.Ytckfkbmefdmedaa
