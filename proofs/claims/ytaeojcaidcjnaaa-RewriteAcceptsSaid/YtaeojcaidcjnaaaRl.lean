import Derived.Test.YtaeojcaidcjnaaaRk
import Derived.Test.YtaeojcaidcjnaaaMP
set_option linter.unusedVariables false
set_option linter.unusedSimpArgs false
namespace Go.Sx
open Go.RowKit
/-! ### the automaton of the reduced words -/
theorem snoc_ind {P : Wrd → Prop} (h0 : P []) (hs : ∀ u a, P u → P (u ++ [a])) (w : Wrd) : P w := by
  have : ∀ r : Wrd, P r.reverse := fun r => by
    induction r with
    | nil => exact h0
    | cons a r ih => rw [List.reverse_cons]; exact hs _ _ ih
  have h := this w.reverse
  rwa [List.reverse_reverse] at h
def Fac (rs : List Rul) (w : Wrd) : Prop := ∃ j, j < rs.length ∧ (rs.getD j ([], [])).1 <:+: w
theorem infix_iff (u L : Wrd) : (∃ i, i ≤ u.length ∧ L <+: u.drop i) ↔ L <:+: u := by
  constructor
  · rintro ⟨i, _, t, ht⟩
    exact ⟨u.take i, t, by rw [List.append_assoc, ht, List.take_append_drop]⟩
  · rintro ⟨s, t, h⟩
    refine ⟨s.length, by rw [← h]; simp, t, ?_⟩
    rw [← h, List.append_assoc, List.drop_left]
theorem once_fac {L : Int} {rs : List Rul} (hV : VR L rs) {w : Wrd} : once rs w = none ↔ ¬ Fac rs w := by
  rw [no_once hV]
  constructor
  · rintro h ⟨j, hj, hi⟩
    exact h j hj ((contains_iff _ _).2 ((infix_iff _ _).2 hi))
  · intro h j hj hc
    exact h ⟨j, hj, (infix_iff _ _).1 ((contains_iff _ _).1 hc)⟩
theorem fac_left {rs : List Rul} {u : Wrd} (v : Wrd) (h : Fac rs u) : Fac rs (u ++ v) := by
  obtain ⟨j, hj, hi⟩ := h
  exact ⟨j, hj, hi.trans (List.infix_append' [] u v |>.trans (by simp))⟩
theorem fac_suf {rs : List Rul} {u v : Wrd} (hs : u <:+ v) (h : Fac rs u) : Fac rs v := by
  obtain ⟨j, hj, hi⟩ := h
  exact ⟨j, hj, hi.trans hs.isInfix⟩
theorem fac_snoc {rs : List Rul} {u : Wrd} {a : UInt8} (h : Fac rs (u ++ [a])) : Fac rs u ∨ ∃ j, j < rs.length ∧ (rs.getD j ([], [])).1 <:+ u ++ [a] := by
  obtain ⟨j, hj, hi⟩ := h
  rcases List.infix_concat_iff.1 hi with h | h
  · exact .inr ⟨j, hj, h⟩
  · exact .inl ⟨j, hj, h⟩
def lfs (rs : List Rul) : List Wrd := rs.map (·.1)
theorem lfs_len (rs : List Rul) : (lfs rs).length = rs.length := by simp [lfs]
theorem lfs_get (rs : List Rul) {k : Nat} (h : k < rs.length) : (lfs rs).getD k [] = (rs.getD k ([], [])).1 := by
  simp [lfs, List.getD_eq_getElem?_getD, List.getElem?_eq_getElem h]
/-! of the finder -/
def finR (L : Int) (fl fd : List Int) (s : Nat) : List Int := (List.range L.toNat).map fun x => if 0 ≤ fd.getD s 0 then (s : Int) else fl.getD (s * 6 + x) 0
def finD (L : Int) (fl fd : List Int) : Dfa := ⟨L, 0, fd.map fun z => decide (z < 0), (List.range fd.length).map (finR L fl fd)⟩
theorem finR_len (L : Int) (fl fd : List Int) (s : Nat) : (finR L fl fd s).length = L.toNat := by simp [finR]
theorem finR_get {L : Int} {fl fd : List Int} {s x : Nat} (hx : x < L.toNat) : (finR L fl fd s).getD x 0 = if 0 ≤ fd.getD s 0 then (s : Int) else fl.getD (s * 6 + x) 0 := by
  simp [finR, List.getD_eq_getElem?_getD, hx]
theorem finD_row {L : Int} {fl fd : List Int} {s : Nat} (hs : s < fd.length) : (finD L fl fd).nx.getD s [] = finR L fl fd s := by
  simp [finD, List.getD_eq_getElem?_getD, hs]
theorem finD_len (L : Int) (fl fd : List Int) : (finD L fl fd).fin.length = fd.length := by simp [finD]
theorem finD_fin {L : Int} {fl fd : List Int} {s : Nat} (hs : s < fd.length) : finQ (finD L fl fd) (s : Int) = decide (fd.getD s 0 < 0) := by
  simp [finQ, finD, List.getD_eq_getElem?_getD, hs]
section
variable {rs : List Rul} {N : List Wrd} {fl fd : List Int} {L : Int}
theorem finD_vd (hF : FinOK (lfs rs) N fl fd) (hL : 1 ≤ L ∧ L ≤ 6) (hN : N.length ≤ 512) : VD (finD L fl fd) where
  L := hL
  n := by rw [finD_len, hF.fdl]; exact hN
  nx := by simp [finD]
  s := by rw [finD_len, hF.fdl]; have := hF.z.1; exact ⟨Int.le_refl _, by show (0 : Int) < _; omega⟩
  row := fun i hi => by
    rw [finD_len] at hi
    rw [finD_row hi, finR_len]; show ((L.toNat : Nat) : Int) = L; omega
  to := fun i x hi hx => by
    rw [finD_len] at hi ⊢
    rw [finD_row hi] at hx ⊢
    rw [finR_len] at hx
    rw [finR_get hx]
    have hfd := hF.fdl
    split
    · omega
    · obtain ⟨t, e, h1, _⟩ := hF.go i (by omega) x (by omega)
      rw [e]; omega
theorem At.suf_fac (hF : FinOK (lfs rs) N fl fd) (hV : VR L rs) {w : Wrd} {t : Nat} (ht : t < N.length) (he : N.getD t [] = lsuf N w) : (0 ≤ fd.getD t 0 ↔ ∃ j, j < rs.length ∧ (rs.getD j ([], [])).1 <:+ w) := by
  have hl := hF.fnd t ht
  rw [he] at hl
  constructor
  · intro h
    obtain ⟨j, _, h1, ⟨_, h2⟩, _⟩ := hl.pos (by omega)
    rw [lfs_len] at h1
    rw [lfs_get rs h1] at h2
    exact ⟨j, h1, h2.trans (lsuf_suf N w)⟩
  · rintro ⟨j, hj, hs⟩
    rcases (show fd.getD t 0 < 0 ∨ 0 ≤ fd.getD t 0 by omega) with k | k
    · have hm := hF.mem j (by rw [lfs_len]; exact hj)
      have := hl.neg k j (by rw [lfs_len]; exact hj)
      rw [lfs_get rs hj] at this hm
      exact absurd ⟨(hV.left hj).1, suf_lsuf hm w hs⟩ this
    · exact k
theorem finD_run (hF : FinOK (lfs rs) N fl fd) (hV : VR L rs) (hN : N.length ≤ 512) {L' : Int} (hL : 1 ≤ L' ∧ L' ≤ 6) (w : Wrd) (hw : Okw (finD L' fl fd) w) :
    (¬ Fac rs w → At N (lsuf N w) (runI (finD L' fl fd) 0 w)) ∧ (Fac rs w → ∃ t : Nat, runI (finD L' fl fd) 0 w = (t : Int) ∧ t < N.length ∧ 0 ≤ fd.getD t 0) := by
  revert hw
  refine snoc_ind (P := fun w => Okw (finD L' fl fd) w → (¬ Fac rs w → At N (lsuf N w) (runI (finD L' fl fd) 0 w)) ∧ (Fac rs w → ∃ t : Nat, runI (finD L' fl fd) 0 w = (t : Int) ∧ t < N.length ∧ 0 ≤ fd.getD t 0)) ?_ ?_ w
  · intro _
    refine ⟨fun _ => ⟨0, rfl, hF.z.1, hF.z.2⟩, ?_⟩
    rintro ⟨j, hj, hi⟩
    exact absurd (List.infix_nil.1 hi) (hV.left hj).1
  · intro u a ih hw
    obtain ⟨ih1, ih2⟩ := ih hw.left
    have ha : okB L' a = true := (okw_cons.1 hw.right).1
    simp only [okB, decide_eq_true_eq] at ha
    obtain ⟨x, hx6, rfl, hxa⟩ := ltr_of (c := a) (by omega)
    have hxL : x < L'.toNat := by omega
    rw [runI_snoc1 _ _ _ (by omega)]
    have hfd := hF.fdl
    have stp : ∀ t : Nat, t < N.length → stepQ (finD L' fl fd) (t : Int) x = if 0 ≤ fd.getD t 0 then (t : Int) else fl.getD (t * 6 + x) 0 := fun t ht => by
      unfold stepQ
      rw [Int.toNat_natCast, finD_row (by omega), finR_get hxL]
    by_cases hu : Fac rs u
    · obtain ⟨t, e, h1, h2⟩ := ih2 hu
      refine ⟨fun h => absurd (fac_left [ltr x] hu) h, fun _ => ⟨t, ?_, h1, h2⟩⟩
      rw [e, stp t h1, if_pos h2]
    · obtain ⟨t, e, h1, h2⟩ := ih1 hu
      have hneg : ¬ 0 ≤ fd.getD t 0 := fun k => by
        obtain ⟨j, hj, hs⟩ := (At.suf_fac hF hV h1 h2).1 k
        exact hu ⟨j, hj, hs.isInfix⟩
      obtain ⟨t', e', h1', h2'⟩ := hF.go t h1 x hx6
      rw [h2, ← lsuf_snoc hF.pc] at h2'
      rw [e, stp t h1, if_neg hneg, e']
      refine ⟨fun _ => ⟨t', rfl, h1', h2'⟩, fun h => ⟨t', rfl, h1', ?_⟩⟩
      rcases fac_snoc h with k | k
      · exact absurd k hu
      · exact (At.suf_fac hF hV h1' h2').2 k
/-- the language is that of the reduced words -/
def Irr (rs : List Rul) (c : Dfa) : Prop := ∀ l, Okw c l → finQ c (runI c c.s l) = (once rs l).isNone
theorem isNone_fac (hV : VR L rs) (w : Wrd) : (once rs w).isNone = true ↔ ¬ Fac rs w := by
  rw [← once_fac hV]; cases once rs w <;> simp
theorem irr_of {c : Dfa} (hV : VR L rs) (h1 : ∀ l, Okw c l → ¬ Fac rs l → finQ c (runI c c.s l) = true) (h2 : ∀ l, Okw c l → Fac rs l → finQ c (runI c c.s l) = false) : Irr rs c := fun l hl => by
  by_cases hf : Fac rs l
  · rw [h2 l hl hf]
    cases h : (once rs l).isNone
    · rfl
    · exact absurd hf ((isNone_fac hV l).1 h)
  · rw [h1 l hl hf, (isNone_fac hV l).2 hf]
theorem finD_irr (hF : FinOK (lfs rs) N fl fd) (hV : VR L rs) (hN : N.length ≤ 512) {L' : Int} (hL : 1 ≤ L' ∧ L' ≤ 6) : Irr rs (finD L' fl fd) := by
  have hfd := hF.fdl
  refine irr_of hV (fun l hl hf => ?_) (fun l hl hf => ?_)
  · obtain ⟨t, e, h1, h2⟩ := (finD_run hF hV hN hL l hl).1 hf
    show finQ (finD L' fl fd) (runI (finD L' fl fd) 0 l) = true
    rw [e, finD_fin (by omega), decide_eq_true_eq]
    have := At.suf_fac hF hV h1 h2
    rcases (show fd.getD t 0 < 0 ∨ 0 ≤ fd.getD t 0 by omega) with k | k
    · exact k
    · obtain ⟨j, hj, hs⟩ := this.1 k
      exact absurd ⟨j, hj, hs.isInfix⟩ hf
  · obtain ⟨t, e, h1, h2⟩ := (finD_run hF hV hN hL l hl).2 hf
    show finQ (finD L' fl fd) (runI (finD L' fl fd) 0 l) = false
    rw [e, finD_fin (by omega), decide_eq_false_iff_not]; omega
end
/-- of such automata all have the same minimal one -/
theorem irr_min {rs : List Rul} {a b : Dfa} (ha : VD a) (hb : VD b) (hL : a.L = b.L) (h1 : Irr rs a) (h2 : Irr rs b) : minD a = minD b :=
  min_eq ha hb hL fun l hl => (h1 l hl).trans (h2 l ((okw_L hL).1 hl)).symm
/-! of the reference -/
structure Pfx (rs : List Rul) (S : List Wrd) : Prop where
  nd : S.Nodup
  z : 0 < S.length ∧ S.getD 0 [] = []
  mem : ∀ u, u ∈ S ↔ u = [] ∨ ∃ j n, j < rs.length ∧ 1 ≤ n ∧ n < (rs.getD j ([], [])).1.length ∧ u = (rs.getD j ([], [])).1.take n
def refR (L : Int) (rs : List Rul) (S : List Wrd) (s : Wrd) : List Int := (List.range L.toNat).map fun x => if once rs (s ++ [ltr x]) = none then ((posN S (lsuf S (s ++ [ltr x])) : Nat) : Int) else (S.length : Int)
def refD (L : Int) (rs : List Rul) (S : List Wrd) : Dfa := ⟨L, 0, S.map (fun s => (once rs s).isNone) ++ [false], S.map (refR L rs S) ++ [List.replicate L.toNat (S.length : Int)]⟩
section
variable {rs : List Rul} {S : List Wrd} {L L' : Int}
theorem Pfx.pc (h : Pfx rs S) : PreC S := fun u a hm => by
  rcases (h.mem _).1 hm with e | ⟨j, n, hj, h1, h2, e⟩
  · simp at e
  · by_cases hn : n = 1
    · refine (h.mem u).2 (.inl ?_)
      have := congrArg List.length e
      simp only [List.length_append, List.length_take, List.length_cons, List.length_nil] at this
      exact List.length_eq_zero_iff.1 (by omega)
    · refine (h.mem u).2 (.inr ⟨j, n - 1, hj, by omega, by omega, ?_⟩)
      have hl := congrArg List.length e
      simp only [List.length_append, List.length_take, List.length_cons, List.length_nil] at hl
      have : u = (u ++ [a]).take u.length := by simp
      rw [this, e, List.take_take]; congr 1; omega
theorem refR_len (s : Wrd) : (refR L rs S s).length = L.toNat := by simp [refR]
theorem refR_get {s : Wrd} {x : Nat} (hx : x < L.toNat) : (refR L rs S s).getD x 0 = if once rs (s ++ [ltr x]) = none then ((posN S (lsuf S (s ++ [ltr x])) : Nat) : Int) else (S.length : Int) := by
  simp [refR, List.getD_eq_getElem?_getD, hx]
theorem refD_len : (refD L rs S).fin.length = S.length + 1 := by simp [refD]
theorem refD_row {s : Nat} (hs : s < S.length) : (refD L rs S).nx.getD s [] = refR L rs S (S.getD s []) := by
  simp only [refD]
  rw [getD_app_lt (by simpa using hs)]
  simp [List.getD_eq_getElem?_getD, hs]
theorem refD_dead : (refD L rs S).nx.getD S.length [] = List.replicate L.toNat (S.length : Int) := by
  simp only [refD]
  rw [getD_app_ge (by simp)]
  simp
theorem refD_vd (h : Pfx rs S) (hL : 1 ≤ L ∧ L ≤ 6) (hn : S.length < 512) : VD (refD L rs S) where
  L := hL
  n := by rw [refD_len]; omega
  nx := by simp [refD]
  s := by rw [refD_len]; exact ⟨Int.le_refl _, by show (0 : Int) < _; omega⟩
  row := fun i hi => by
    rw [refD_len] at hi
    show _ = L
    by_cases k : i < S.length
    · rw [refD_row k, refR_len]; omega
    · rw [show i = S.length by omega, refD_dead, List.length_replicate]; omega
  to := fun i x hi hx => by
    rw [refD_len] at hi ⊢
    by_cases k : i < S.length
    · rw [refD_row k] at hx ⊢
      rw [refR_len] at hx
      rw [refR_get hx]
      have := posN_le S (lsuf S (S.getD i [] ++ [ltr x]))
      split <;> omega
    · rw [show i = S.length by omega, refD_dead] at hx ⊢
      rw [List.length_replicate] at hx
      rw [List.getD_eq_getElem?_getD, List.getElem?_replicate, if_pos hx]; simp; omega
theorem refD_run (h : Pfx rs S) (hV : VR L rs) (hL : 1 ≤ L' ∧ L' ≤ 6) (w : Wrd) (hw : Okw (refD L' rs S) w) :
    (¬ Fac rs w → runI (refD L' rs S) 0 w = ((posN S (lsuf S w) : Nat) : Int)) ∧ (Fac rs w → runI (refD L' rs S) 0 w = (S.length : Int)) := by
  revert hw
  have h0 : [] ∈ S := (h.mem []).2 (.inl rfl)
  have gp : ∀ u : Wrd, u ∈ S → S.getD (posN S u) [] = u := fun u hu => by
    obtain ⟨k, hk, e⟩ := mem_getD [] hu
    rw [← e, posN_at [] h.nd hk]
  refine snoc_ind (P := fun w => Okw (refD L' rs S) w → (¬ Fac rs w → runI (refD L' rs S) 0 w = ((posN S (lsuf S w) : Nat) : Int)) ∧ (Fac rs w → runI (refD L' rs S) 0 w = (S.length : Int))) ?_ ?_ w
  · intro _
    refine ⟨fun _ => ?_, ?_⟩
    · have : posN S [] = 0 := by rw [← h.z.2]; exact posN_at [] h.nd h.z.1
      show (0 : Int) = ((posN S [] : Nat) : Int)
      rw [this]; rfl
    · rintro ⟨j, hj, hi⟩
      exact absurd (List.infix_nil.1 hi) (hV.left hj).1
  · intro u a ih hw
    obtain ⟨ih1, ih2⟩ := ih hw.left
    have ha : okB L' a = true := (okw_cons.1 hw.right).1
    simp only [okB, decide_eq_true_eq] at ha
    obtain ⟨x, hx6, rfl, hxa⟩ := ltr_of (c := a) (by omega)
    have hxL : x < L'.toNat := by omega
    rw [runI_snoc1 _ _ _ (by omega)]
    by_cases hu : Fac rs u
    · refine ⟨fun k => absurd (fac_left [ltr x] hu) k, fun _ => ?_⟩
      rw [ih2 hu]
      unfold stepQ
      rw [Int.toNat_natCast, refD_dead, List.getD_eq_getElem?_getD, List.getElem?_replicate, if_pos hxL]; rfl
    · have hm := lsuf_mem h0 u
      have hstep : stepQ (refD L' rs S) ((posN S (lsuf S u) : Nat) : Int) x = if once rs (lsuf S u ++ [ltr x]) = none then ((posN S (lsuf S (lsuf S u ++ [ltr x])) : Nat) : Int) else (S.length : Int) := by
        unfold stepQ
        rw [Int.toNat_natCast, refD_row (posN_lt hm), gp _ hm, refR_get hxL]
      have hsf : lsuf S u ++ [ltr x] <:+ u ++ [ltr x] := by
        obtain ⟨t, ht⟩ := lsuf_suf S u
        exact ⟨t, by rw [← List.append_assoc, ht]⟩
      rw [ih1 hu, hstep]
      refine ⟨fun k => ?_, fun k => ?_⟩
      · rw [if_pos ((once_fac hV).2 fun e => k (fac_suf hsf e)), ← lsuf_snoc h.pc]
      · rw [if_neg]
        rw [once_fac hV]
        refine fun nn => nn ?_
        rcases fac_snoc k with k | ⟨j, hj, hs⟩
        · exact absurd k hu
        · refine ⟨j, hj, ?_⟩
          obtain ⟨p, c, hpc⟩ : ∃ p c, (rs.getD j ([], [])).1 = p ++ [c] := ⟨_, _, (List.dropLast_concat_getLast (hV.left hj).1).symm⟩
          rw [hpc] at hs ⊢
          obtain ⟨t, ht⟩ := hs
          rw [← List.append_assoc] at ht
          have e1 := List.append_inj_left' ht rfl
          have e2 := List.append_inj_right' ht rfl
          have hp : p ∈ S := by
            rw [h.mem]
            by_cases hpn : p = []
            · exact .inl hpn
            · refine .inr ⟨j, p.length, hj, ?_, ?_, ?_⟩
              · have := List.length_pos_iff.2 hpn; omega
              · rw [hpc]; simp
              · rw [hpc]; simp
          obtain ⟨q, hq⟩ := suf_lsuf hp u ⟨t, e1⟩
          rw [e2]
          exact List.IsSuffix.isInfix ⟨q, by rw [← List.append_assoc, hq]⟩
theorem refD_irr (h : Pfx rs S) (hV : VR L rs) (hL : 1 ≤ L' ∧ L' ≤ 6) : Irr rs (refD L' rs S) := by
  have h0 : [] ∈ S := (h.mem []).2 (.inl rfl)
  have gp : ∀ u : Wrd, u ∈ S → S.getD (posN S u) [] = u := fun u hu => by
    obtain ⟨k, hk, e⟩ := mem_getD [] hu
    rw [← e, posN_at [] h.nd hk]
  refine irr_of hV (fun l hl hf => ?_) (fun l hl hf => ?_)
  · show finQ (refD L' rs S) (runI (refD L' rs S) 0 l) = true
    have hm := lsuf_mem h0 l
    rw [(refD_run h hV hL l hl).1 hf]
    unfold finQ
    rw [Int.toNat_natCast]
    simp only [refD]
    rw [getD_app_lt (by simpa using posN_lt hm)]
    have e : (S.map fun s => (once rs s).isNone).getD (posN S (lsuf S l)) false = (once rs (S.getD (posN S (lsuf S l)) [])).isNone := by
      simp [List.getD_eq_getElem?_getD, List.getElem?_eq_getElem (posN_lt hm)]
    rw [e, gp _ hm, isNone_fac hV]
    exact fun k => hf (fac_suf (lsuf_suf S l) k)
  · show finQ (refD L' rs S) (runI (refD L' rs S) 0 l) = false
    rw [(refD_run h hV hL l hl).2 hf]
    unfold finQ
    rw [Int.toNat_natCast]
    simp only [refD]
    rw [getD_app_ge (by simp)]
    simp
end
end Go.Sx
