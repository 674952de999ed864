import Derived.Test.YtaeojcaidcjnaaaRf
import Derived.Test.YtaeojcaidcjnaaaSc
set_option linter.unusedVariables false
set_option linter.unusedSimpArgs false
namespace Go.Sx
open Go.RowKit
/-! ### one step, and many -/
def ruleAt (rs : List Rul) (u : Wrd) : Option Rul := rs.find? fun r => r.1.isPrefixOf u
def once (rs : List Rul) : Wrd → Option Wrd
  | [] => none
  | a :: u => match ruleAt rs (a :: u) with
    | some r => some (r.2 ++ (a :: u).drop r.1.length)
    | none => (once rs u).map (a :: ·)
def redF (rs : List Rul) : Nat → Wrd → Option Wrd
  | f, w => match once rs w with
    | none => some w
    | some v => match f with
      | 0 => none
      | f + 1 => redF rs f v
theorem redF_none {rs : List Rul} {f : Nat} {w : Wrd} (h : once rs w = none) : redF rs f w = some w := by
  unfold redF; rw [h]
theorem redF_some {rs : List Rul} {f : Nat} {w v : Wrd} (h : once rs w = some v) : redF rs (f + 1) w = redF rs f v := by
  conv => lhs; unfold redF
  rw [h]
theorem redF_zero {rs : List Rul} {w v : Wrd} (h : once rs w = some v) : redF rs 0 w = none := by
  unfold redF; rw [h]
theorem once_none {rs : List Rul} : ∀ {w : Wrd}, once rs w = none ↔ ∀ i, i < w.length → ruleAt rs (w.drop i) = none
  | [] => ⟨fun _ i hi => by simp at hi, fun _ => rfl⟩
  | a :: u => by
    unfold once
    constructor
    · intro h i hi
      cases hr : ruleAt rs (a :: u) with
      | some r => rw [hr] at h; cases h
      | none =>
        rw [hr] at h
        cases i with
        | zero => exact hr
        | succ i =>
          have : once rs u = none := by simpa using h
          exact once_none.1 this i (by simpa using hi)
    · intro h
      have h0 : ruleAt rs (a :: u) = none := h 0 (by simp)
      rw [h0]
      have : once rs u = none := once_none.2 fun i hi => h (i + 1) (by simpa using hi)
      simp [this]
theorem once_some {rs : List Rul} : ∀ {w : Wrd} (i : Nat) {r : Rul}, i < w.length → ruleAt rs (w.drop i) = some r → (∀ j, j < i → ruleAt rs (w.drop j) = none) → once rs w = some (w.take i ++ r.2 ++ w.drop (i + r.1.length))
  | [], i, r, hi, _, _ => by simp at hi
  | a :: u, 0, r, hi, hr, hn => by
    unfold once
    rw [show ruleAt rs (a :: u) = some r from hr]
    simp
  | a :: u, i + 1, r, hi, hr, hn => by
    unfold once
    rw [show ruleAt rs (a :: u) = none from hn 0 (by omega)]
    have := once_some (w := u) i (by simpa using hi) hr (fun j hj => hn (j + 1) (by omega))
    simp only [this, Option.map_some, List.take_succ_cons, List.cons_append]
    rw [show i + 1 + r.1.length = (i + r.1.length) + 1 by omega, List.drop_succ_cons]
theorem ruleAt_pre {rs : List Rul} {u : Wrd} {r : Rul} (h : ruleAt rs u = some r) : r.1 <+: u ∧ r ∈ rs := by
  refine ⟨?_, List.mem_of_find?_eq_some h⟩
  have := List.find?_some h
  exact List.isPrefixOf_iff_prefix.1 this
theorem ruleAt_of {rs : List Rul} {u : Wrd} {i : Nat} (hi : i < rs.length) (h : (rs.getD i ([], [])).1 <+: u) (hn : ∀ j, j < i → ¬ (rs.getD j ([], [])).1 <+: u) : ruleAt rs u = some (rs.getD i ([], [])) := by
  unfold ruleAt
  rw [List.find?_eq_some_iff_getElem]
  have e : ∀ k (hk : k < rs.length), rs.getD k ([], []) = rs[k] := fun k hk => by rw [List.getD_eq_getElem?_getD, List.getElem?_eq_getElem hk]; rfl
  refine ⟨List.isPrefixOf_iff_prefix.2 h, i, hi, (e i hi).symm, fun j hj => ?_⟩
  have := hn j hj
  rw [e j (by omega)] at this
  rw [Bool.not_eq_true', Bool.eq_false_iff]
  exact fun k => this (List.isPrefixOf_iff_prefix.1 k)
theorem ruleAt_no {rs : List Rul} {u : Wrd} (hn : ∀ j, j < rs.length → ¬ (rs.getD j ([], [])).1 <+: u) : ruleAt rs u = none := by
  unfold ruleAt
  rw [List.find?_eq_none]
  intro r hr hk
  obtain ⟨j, hj, e⟩ := mem_getD ([], []) hr
  rw [← e] at hk
  exact hn j hj (List.isPrefixOf_iff_prefix.1 hk)
def cpy' {α : Type} (R : List α) (a b : Nat) : List α := R.take a ++ R.drop b
/-! ### what the finder finds -/
theorem Lix.at {ps N : List Wrd} {fl fd : List Int} (h : FinOK ps N fl fd) {T : Wrd} {k : Nat} {t : Nat} (hz : StA N T k (t : Int)) : Lix (fun i => ps.getD i [] ≠ [] ∧ ps.getD i [] <:+ T.take (k + 1)) ps.length (fd.getD t 0) := by
  obtain ⟨t', e, h1, h2⟩ := hz
  have : t = t' := by omega
  subst this
  have := h.fnd t h1
  rw [h2] at this
  exact this.congr fun i hi => and_congr_right fun _ => ⟨fun e => e.trans (lsuf_suf N _), fun e => suf_lsuf (h.mem i hi) _ e⟩
/-- the word that a tape holds from a place on -/
def tw (T : Wrd) (k : Nat) : Wrd := (T.take (k + 1)).reverse
theorem tw_drop (T : Wrd) {k : Nat} (hk : k < T.length) : tw T k = T.reverse.drop (T.length - 1 - k) := by
  unfold tw
  rw [List.drop_reverse]
  congr 2; omega
theorem VR.left {L : Int} {rs : List Rul} (h : VR L rs) {i : Nat} (hi : i < rs.length) : (rs.getD i ([], [])).1 ≠ [] ∧ (rs.getD i ([], [])).2.length ≤ (rs.getD i ([], [])).1.length := by
  have := (h.v _ (getD_mem (d := ([], [])) hi)).2.2
  rw [slx_iff] at this
  refine ⟨fun e => ?_, by omega⟩
  rw [e] at this
  rcases this with k | ⟨k, l⟩
  · simp at k
  · have : (rs.getD i ([], [])).2 = [] := List.length_eq_zero_iff.1 (by simpa using k)
    rw [this] at l; simp [Op.bytesLess] at l
theorem pat_iff {L : Int} {m : Nat} {rs : List Rul} (hV : VR L rs) {T : Wrd} {k i : Nat} (hk : k < T.length) (hT : T.length ≤ m) (hi : i < rs.length) :
    ((pats (m : Int) rs).getD i [] ≠ [] ∧ (pats (m : Int) rs).getD i [] <:+ T.take (k + 1)) ↔ (rs.getD i ([], [])).1 <+: tw T k := by
  rw [pats_get _ rs hi]
  have hne := (hV.left hi).1
  generalize (rs.getD i ([], [])) = r at hne ⊢
  have e : r.1 <+: tw T k ↔ r.1.reverse <:+ T.take (k + 1) := by
    unfold tw
    rw [← List.reverse_suffix, List.reverse_reverse]
  unfold patR
  by_cases hl : (r.1.length : Int) ≤ m
  · rw [if_pos hl, e]
    exact ⟨fun h => h.2, fun h => ⟨by simpa using hne, h⟩⟩
  · rw [if_neg hl]
    refine ⟨fun h => absurd rfl h.1, fun h => ?_⟩
    rw [e] at h
    have := h.length_le
    rw [List.length_reverse, List.length_take] at this
    omega
theorem fd_neg {L : Int} {m : Nat} {rs : List Rul} {N : List Wrd} {fl fd : List Int} (hF : FinOK (pats (m : Int) rs) N fl fd) (hV : VR L rs) {T : Wrd} {k : Nat} (hk : k < T.length) (hT : T.length ≤ m) {t : Nat} (hz : StA N T k (t : Int)) (hn : fd.getD t 0 < 0) : ruleAt rs (tw T k) = none := by
  have := (Lix.at hF hz).neg hn
  rw [pats_len] at this
  exact ruleAt_no fun j hj h => this j hj ((pat_iff hV hk hT hj).2 h)
theorem fd_pos {L : Int} {m : Nat} {rs : List Rul} {N : List Wrd} {fl fd : List Int} (hF : FinOK (pats (m : Int) rs) N fl fd) (hV : VR L rs) {T : Wrd} {k : Nat} (hk : k < T.length) (hT : T.length ≤ m) {t : Nat} (hz : StA N T k (t : Int)) (hn : ¬ fd.getD t 0 < 0) :
    ∃ i : Nat, fd.getD t 0 = (i : Int) ∧ i < rs.length ∧ ruleAt rs (tw T k) = some (rs.getD i ([], [])) ∧ (rs.getD i ([], [])).1.reverse <:+ T.take (k + 1) := by
  obtain ⟨i, e, h1, h2, h3⟩ := (Lix.at hF hz).pos hn
  rw [pats_len] at h1
  have hp := (pat_iff hV hk hT h1).1 h2
  refine ⟨i, e, h1, ruleAt_of h1 hp (fun j hj h => h3 j hj ((pat_iff hV hk hT (by omega)).2 h)), ?_⟩
  unfold tw at hp
  rw [← List.reverse_suffix, List.reverse_reverse] at hp; exact hp
/-- the tape behind the rule that begins at a place -/
def newT (T : Wrd) (k : Nat) (r : Rul) : Wrd := T.take (k + 1 - r.1.length) ++ r.2.reverse ++ T.drop (k + 1)
theorem once_tape {rs : List Rul} {T : Wrd} {k : Nat} {r : Rul} (hk : k < T.length) (hr : ruleAt rs (tw T k) = some r) (hn : ∀ j, k < j → j < T.length → ruleAt rs (tw T j) = none) (hs : r.1.reverse <:+ T.take (k + 1)) : once rs T.reverse = some (newT T k r).reverse := by
  have hl := hs.length_le
  rw [List.length_reverse, List.length_take] at hl
  rw [tw_drop T hk] at hr
  rw [once_some (T.length - 1 - k) (by rw [List.length_reverse]; omega) hr (fun j hj => by
    have := hn (T.length - 1 - j) (by omega) (by omega)
    rw [tw_drop T (by omega), show T.length - 1 - (T.length - 1 - j) = j by omega] at this; exact this)]
  congr 1
  unfold newT
  rw [List.reverse_append, List.reverse_append, List.reverse_reverse, List.append_assoc]
  rw [List.take_reverse, List.drop_reverse, show T.length - (T.length - 1 - k) = k + 1 by omega, show T.length - (T.length - 1 - k + r.1.length) = k + 1 - r.1.length by omega]
theorem once_end {rs : List Rul} {T : Wrd} (hn : ∀ j, j < T.length → ruleAt rs (tw T j) = none) : once rs T.reverse = none := by
  refine once_none.2 fun i hi => ?_
  rw [List.length_reverse] at hi
  have := hn (T.length - 1 - i) (by omega)
  rw [tw_drop T (by omega), show T.length - 1 - (T.length - 1 - i) = i by omega] at this; exact this
theorem newT_len {T : Wrd} {k : Nat} {r : Rul} (hk : k < T.length) (hs : r.1.reverse <:+ T.take (k + 1)) (hlr : r.2.length ≤ r.1.length) : (newT T k r).length = T.length - (r.1.length - r.2.length) := by
  have hl := hs.length_le
  rw [List.length_reverse, List.length_take] at hl
  simp [newT]; omega
theorem newT_lo {T : Wrd} {k j : Nat} {r : Rul} (hk : k < T.length) (hj : j < k + 1 - r.1.length) : (newT T k r).take (j + 1) = T.take (j + 1) := by
  unfold newT
  rw [List.append_assoc, List.take_append_of_le_length (by rw [List.length_take]; omega), List.take_take, Nat.min_eq_left (by omega)]
theorem newT_hi {T : Wrd} {k j : Nat} {r : Rul} (hk : k < T.length) (hs : r.1.reverse <:+ T.take (k + 1)) (hlr : r.2.length ≤ r.1.length) (hj : k + 1 - r.1.length + r.2.length ≤ j) : (newT T k r).getD j 0 = T.getD (j + (r.1.length - r.2.length)) 0 := by
  have hl := hs.length_le
  rw [List.length_reverse, List.length_take] at hl
  unfold newT
  rw [getD_app_ge (by simp; omega), List.getD_eq_getElem?_getD, List.getElem?_drop, ← List.getD_eq_getElem?_getD]
  congr 1
  simp; omega
theorem newT_al {T : Wrd} {k : Nat} {r : Rul} (hT : ∀ k, k < T.length → 97 ≤ (T.getD k 0).toNat ∧ (T.getD k 0).toNat < 103) (h2 : Al r.2) : ∀ j, j < (newT T k r).length → 97 ≤ ((newT T k r).getD j 0).toNat ∧ ((newT T k r).getD j 0).toNat < 103 := by
  have all : ∀ c ∈ newT T k r, 97 ≤ c.toNat ∧ c.toNat < 103 := by
    intro c hc
    have hT' : ∀ c ∈ T, 97 ≤ c.toNat ∧ c.toNat < 103 := fun c hc => by
      obtain ⟨j, hj, e⟩ := mem_getD 0 hc
      rw [← e]; exact hT j hj
    unfold newT at hc
    rcases List.mem_append.1 hc with hc | hc
    · rcases List.mem_append.1 hc with hc | hc
      · exact hT' c (List.mem_of_mem_take hc)
      · obtain ⟨j, hj, e⟩ := mem_getD 0 (List.mem_reverse.1 hc)
        rw [← e]; exact h2.2 j hj
    · exact hT' c (List.mem_of_mem_drop hc)
  exact fun j hj => all _ (getD_mem hj)
/-- the states behind a step, before they are read again -/
theorem cpy_lo {R : List Int} {a b j : Nat} (hj : j < a) (ha : a ≤ R.length) : (cpy' R a b).getD j 0 = R.getD j 0 := by
  unfold cpy'
  rw [getD_app_lt (by rw [List.length_take]; omega)]
  rw [List.getD_eq_getElem?_getD, List.getElem?_take, if_pos hj, ← List.getD_eq_getElem?_getD]
theorem cpy_hi {R : List Int} {a b j : Nat} (hj : a ≤ j) (hab : a ≤ b) (hb : b ≤ R.length) : (cpy' R a b).getD j 0 = R.getD (j + (b - a)) 0 := by
  unfold cpy'
  rw [getD_app_ge (by rw [List.length_take]; omega), List.getD_eq_getElem?_getD, List.getElem?_drop, ← List.getD_eq_getElem?_getD, List.length_take]
  congr 1; omega
theorem At.inj {N : List Wrd} {u v : Wrd} {z : Int} (h : At N u z) (k : At N v z) : u = v := by
  obtain ⟨t, e, h1, h2⟩ := h
  obtain ⟨s, e', k1, k2⟩ := k
  have : t = s := by omega
  rw [← h2, ← k2, this]
/-- old states hang together -/
theorem sure_hc {ps N : List Wrd} {fl fd : List Int} (hF : FinOK ps N fl fd) {T : Wrd} {R : List Int} {k : Nat} {r : Rul} (hR : R.length = T.length) (hok : ∀ j, j < T.length → StA N T j (R.getD j 0)) (hk : k < T.length) (hs : r.1.reverse <:+ T.take (k + 1)) (hlr : r.2.length ≤ r.1.length) :
    ∀ j, k + 1 - r.1.length + r.2.length ≤ j → j + 1 < (newT T k r).length → StA N (newT T k r) j ((cpy' R (k + 1 - r.1.length + r.2.length) (k + 1)).getD j 0) → StA N (newT T k r) (j + 1) ((cpy' R (k + 1 - r.1.length + r.2.length) (k + 1)).getD (j + 1) 0) := by
  intro j hj hjl h
  have hl := hs.length_le
  rw [List.length_reverse, List.length_take] at hl
  have hlen := newT_len hk hs hlr
  rw [cpy_hi hj (by omega) (by omega)] at h
  rw [cpy_hi (by omega) (by omega) (by omega)]
  have e : k + 1 - (k + 1 - r.1.length + r.2.length) = r.1.length - r.2.length := by omega
  rw [e] at h ⊢
  generalize hd : r.1.length - r.2.length = d at h hlen ⊢
  have h0 := hok (j + d) (by omega)
  have h1 := hok (j + 1 + d) (by omega)
  unfold StA at h h0 h1 ⊢
  have heq := At.inj h h0
  have hc : (newT T k r).getD (j + 1) 0 = T.getD (j + 1 + d) 0 := by rw [newT_hi hk hs hlr (by omega), hd]
  rw [take_snocD 0 _ (j + 1) hjl, lsuf_snoc hF.pc, heq, hc, ← lsuf_snoc hF.pc]
  rw [take_snocD 0 T (j + 1 + d) (by omega)] at h1
  rw [show j + 1 + d = j + d + 1 by omega] at h1 ⊢
  exact h1
/-! ### what lies outside -/
theorem BxA.lt {w : World} {b : Nat} {cs : List Value} (h : BxA w b cs) : b < w.heap.size := by
  obtain ⟨E, h⟩ := h; exact (Array.getElem?_eq_some_iff.1 h).1
theorem BxA.off {C : Cx} {w : World} {b : Nat} {cs : List Value} (h : BxA C.W0 b cs) (hS : ¬ C.S b) (hf : FrameX C.S C.W0 w) : BxA w b cs := by
  have hl := h.lt
  obtain ⟨E, h⟩ := h
  exact ⟨E, by rw [hf.block b hl hS]; exact h⟩
theorem Rd.off {C : Cx} {w : World} {Fs : Nat → Nat → Prop} {i : Nat} {v : Value} {sz n : Nat} {cs : List Value} (h : Rd (fun b => ¬ C.S b) C.W0 v sz n cs) (hf : FrameX C.S C.W0 w) (hal : ∀ k b, Fs k b → C.W0.heap.size ≤ b ∨ C.S b) : Rd (fun b => ¬ Fs i b) w v sz n cs :=
  Rd.keep h hf fun b h1 h2 h3 => (hal i b h3).elim (fun h => by omega) h1
theorem not_Fs {C : Cx} {Fs : Nat → Nat → Prop} {i b : Nat} {cs : List Value} (h : BxA C.W0 b cs) (hS : ¬ C.S b) (hal : ∀ k b, Fs k b → C.W0.heap.size ≤ b ∨ C.S b) : ¬ Fs i b :=
  fun h3 => (hal i b h3).elim (fun k => by have := h.lt; omega) hS
theorem IsSl.to {v : Value} (h : IsSl v) (m : Nat) : IsSl (slTo v m) := by
  obtain ⟨a, n, c, rfl⟩ := h; exact ⟨_, _, _, rfl⟩
theorem one_byv (T : Wrd) : one' (T.map byv) := by
  intro u hu
  obtain ⟨c, _, rfl⟩ := List.mem_map.1 hu; rfl
theorem one_i32 (R : List Int) : one' (R.map (Value.int .i32)) := by
  intro u hu
  obtain ⟨c, _, rfl⟩ := List.mem_map.1 hu; rfl
theorem cpy_cut {α : Type} (f : α → Value) (T : List α) {a b m : Nat} (hab : a ≤ b) (hb : b ≤ T.length) (hm : m = a + (T.length - b)) : (cpy (T.map f) a b).take m = (cpy' T a b).map f := by
  subst hm
  unfold cpy cpy'
  rw [List.take_append_of_le_length (by simp; omega), List.take_of_length_le (by simp; omega), List.map_append, List.map_take, List.map_drop]
/-- Right, written backwards -/
def wrT (T R2 : Wrd) (hi k x : Nat) : Wrd := T.take (hi - x) ++ (R2.take x).reverse ++ T.drop k
theorem wrT_next {T R2 : Wrd} {hi k x : Nat} (hx : x < R2.length) (hh : R2.length ≤ hi) (hl : hi ≤ T.length) : ((wrT T R2 hi k x).map byv).set (hi - 1 - x) (byv (R2.getD x 0)) = (wrT T R2 hi k (x + 1)).map byv := by
  rw [← List.map_set]
  congr 1
  unfold wrT
  have e : T.take (hi - x) = T.take (hi - (x + 1)) ++ [T.getD (hi - (x + 1)) 0] := by
    rw [show hi - x = hi - (x + 1) + 1 by omega]; exact take_snocD 0 T _ (by omega)
  have e2 : R2.take (x + 1) = R2.take x ++ [R2.getD x 0] := take_snocD 0 R2 x hx
  rw [e, e2, show hi - 1 - x = hi - (x + 1) by omega]
  have hlen : (T.take (hi - (x + 1))).length = hi - (x + 1) := by rw [List.length_take]; omega
  simp only [List.append_assoc, List.reverse_append, List.reverse_cons, List.reverse_nil, List.nil_append, List.singleton_append]
  rw [List.set_append_right _ _ (by omega), hlen, Nat.sub_self]
  rfl
end Go.Sx
