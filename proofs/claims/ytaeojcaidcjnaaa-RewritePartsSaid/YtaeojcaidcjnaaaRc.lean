import Derived.Test.YtaeojcaidcjnaaaRb
set_option linter.unusedVariables false
set_option linter.unusedSimpArgs false
set_option linter.unusedSectionVars false
namespace Go.Sx
open Go.RowKit
/-- what a finder is -/
structure FinOK (ps N : List Wrd) (fl fd : List Int) : Prop where
  nd : N.Nodup
  z : 0 < N.length ∧ N.getD 0 [] = []
  pc : PreC N
  al : ∀ u ∈ N, ∀ c ∈ u, 97 ≤ c.toNat ∧ c.toNat < 103
  fll : fl.length = N.length * 6
  fdl : fd.length = N.length
  mem : ∀ i, i < ps.length → ps.getD i [] ∈ N
  go : ∀ s, s < N.length → ∀ x, x < 6 → At N (lsuf N (N.getD s [] ++ [ltr x])) (fl.getD (s * 6 + x) 0)
  fnd : ∀ s, s < N.length → Lix (fun i => ps.getD i [] ≠ [] ∧ ps.getD i [] <:+ N.getD s []) ps.length (fd.getD s 0)
/-- the search: i states done, of the next one x letters, m found -/
structure Cmp (ps N : List Wrd) (f0 d0 : List Int) (i x m : Nat) (q : List Nat) (sh fl fd : List Int) : Prop where
  le : i ≤ q.length
  x6 : x ≤ 6
  xi : 0 < x → i < q.length
  ml : m ≤ q.length
  q0 : 0 < q.length ∧ q.getD 0 0 = 0
  nd : q.Nodup
  lt : ∀ j, j < q.length → q.getD j 0 < N.length
  cl : ∀ t, t < N.length → (t ∈ q ↔ t = 0 ∨ (∃ j y, j < i ∧ y < 6 ∧ N.getD t [] = N.getD (q.getD j 0) [] ++ [ltr y]) ∨ (∃ y, y < x ∧ N.getD t [] = N.getD (q.getD i 0) [] ++ [ltr y]))
  so : ∀ a b, a ≤ b → b < q.length → (N.getD (q.getD a 0) []).length ≤ (N.getD (q.getD b 0) []).length
  shl : sh.length = N.length
  shv : ∀ j, j < q.length → At N (lsuf N (N.getD (q.getD j 0) []).tail) (sh.getD (q.getD j 0) 0)
  fll : fl.length = N.length * 6
  f1 : ∀ j y, j < i → y < 6 → At N (lsuf N (N.getD (q.getD j 0) [] ++ [ltr y])) (fl.getD (q.getD j 0 * 6 + y) 0)
  f2 : ∀ y, y < x → At N (lsuf N (N.getD (q.getD i 0) [] ++ [ltr y])) (fl.getD (q.getD i 0 * 6 + y) 0)
  f3 : ∀ s y, s < N.length → y < 6 → (∀ j, j < i → q.getD j 0 ≠ s) → (s = q.getD i 0 → i < q.length → x ≤ y) → fl.getD (s * 6 + y) 0 = f0.getD (s * 6 + y) 0
  fdl : fd.length = N.length
  d1 : ∀ j, j < m → Lix (fun i => ps.getD i [] ≠ [] ∧ ps.getD i [] <:+ N.getD (q.getD j 0) []) ps.length (fd.getD (q.getD j 0) 0)
  d2 : ∀ s, s < N.length → (∀ j, j < m → q.getD j 0 ≠ s) → fd.getD s 0 = d0.getD s 0
section
variable {ps N : List Wrd} {f0 d0 : List Int} (T : Trie ps ps.length N f0 d0)
include T
theorem nil_ix {t : Nat} (ht : t < N.length) (h : N.getD t [] = []) : t = 0 := getD_inj T.nd ht T.z.1 (by rw [h, T.z.2])
theorem At.zero {z : Int} (h : At N [] z) : z = 0 := by
  obtain ⟨t, rfl, h1, h2⟩ := h
  rw [nil_ix T h1 h2]; rfl
theorem at_nil : At N [] 0 := ⟨0, rfl, T.z.1, T.z.2⟩
theorem cmp0 : Cmp ps N f0 d0 0 0 0 [0] (List.replicate N.length 0) f0 d0 where
  le := Nat.zero_le _
  x6 := Nat.zero_le _
  xi := fun h => by omega
  ml := Nat.zero_le _
  q0 := ⟨by simp, rfl⟩
  nd := by simp
  lt := fun j hj => by
    have : j = 0 := by simpa using hj
    subst this; exact T.z.1
  cl := fun t ht => by
    constructor
    · intro h; exact .inl (by simpa using h)
    · rintro (h | ⟨j, y, h, _⟩ | ⟨y, h, _⟩)
      · simp [h]
      · omega
      · omega
  so := fun a b h hb => by
    have : b = 0 := by simpa using hb
    subst this
    have : a = 0 := by omega
    subst this; exact Nat.le_refl _
  shl := by simp
  shv := fun j hj => by
    have : j = 0 := by simpa using hj
    subst this
    rw [getD_rep0]
    show At N (lsuf N (N.getD 0 []).tail) 0
    rw [T.z.2]; exact at_nil T
  fll := T.fll
  f1 := fun j y h => by omega
  f2 := fun y h => by omega
  f3 := fun s y _ _ _ _ => rfl
  fdl := T.fdl
  d1 := fun j h => by omega
  d2 := fun s _ _ => rfl
variable {i x m : Nat} {q : List Nat} {sh fl fd : List Int} (h : Cmp ps N f0 d0 i x m q sh fl fd)
include h
theorem Cmp.inj {a b : Nat} (ha : a < q.length) (hb : b < q.length) (e : q.getD a 0 = q.getD b 0) : a = b := by
  rw [List.getD_eq_getElem?_getD, List.getElem?_eq_getElem ha, List.getD_eq_getElem?_getD, List.getElem?_eq_getElem hb] at e
  exact (List.getElem_inj h.nd).1 e
theorem Cmp.qle : q.length ≤ N.length := by
  have := nodup_sub_len (U := List.range N.length) h.nd (fun y hy => by
    obtain ⟨k, hk, e⟩ := mem_getD 0 hy
    rw [List.mem_range, ← e]; exact h.lt k hk)
  simpa using this
theorem Cmp.shorter (hi : i < q.length) : ∀ (n t : Nat), (N.getD t []).length = n → t < N.length → n < (N.getD (q.getD i 0) []).length → ∃ j, j < i ∧ q.getD j 0 = t := by
  intro n
  induction n with
  | zero =>
    intro t hn ht hlt
    have e := nil_ix T ht (List.length_eq_zero_iff.1 hn)
    subst e
    refine ⟨0, ?_, h.q0.2⟩
    rcases Nat.eq_zero_or_pos i with e | e
    · subst e; rw [h.q0.2, hn] at hlt; omega
    · exact e
  | succ n ih =>
    intro t hn ht hlt
    have hne : N.getD t [] ≠ [] := fun e => by rw [e] at hn; simp at hn
    obtain ⟨v, a, hva⟩ : ∃ v a, N.getD t [] = v ++ [a] := ⟨_, _, (List.dropLast_concat_getLast hne).symm⟩
    have htN : N.getD t [] ∈ N := getD_mem ht
    have hvN : v ∈ N := T.pc v a (hva ▸ htN)
    obtain ⟨r, hr, hrv⟩ := mem_getD [] hvN
    have hvl : v.length = n := by rw [hva] at hn; simpa using hn
    obtain ⟨j, hj, hjr⟩ := ih r (by rw [hrv, hvl]) hr (by omega)
    have hal := T.al _ htN a (by rw [hva]; simp)
    have hay : a = ltr (a.toNat - 97) := UInt8.toNat_inj.1 (by rw [ltr_toNat (by omega)]; omega)
    have hq : t ∈ q := (h.cl t ht).2 (.inr (.inl ⟨j, a.toNat - 97, hj, by omega, by rw [hjr, hrv, ← hay, hva]⟩))
    obtain ⟨b, hb, hbt⟩ := mem_getD 0 hq
    refine ⟨b, ?_, hbt⟩
    rcases Nat.lt_or_ge b i with e | e
    · exact e
    · have := h.so i b e hb
      rw [hbt] at this; omega
/-- the shorter state is done -/
theorem Cmp.short (hi : i < q.length) (hs : q.getD i 0 ≠ 0) : ∃ j, j < i ∧ sh.getD (q.getD i 0) 0 = ((q.getD j 0 : Nat) : Int) ∧ N.getD (q.getD j 0) [] = lsuf N (N.getD (q.getD i 0) []).tail ∧ N.getD (q.getD i 0) [] ≠ [] := by
  have hne : N.getD (q.getD i 0) [] ≠ [] := fun e => hs (nil_ix T (h.lt i hi) e)
  obtain ⟨t, h1, h2, h3⟩ := h.shv i hi
  obtain ⟨j, hj, e⟩ := h.shorter T hi _ t rfl h2 (by
    rw [h3]
    have := lsuf_len N (N.getD (q.getD i 0) []).tail
    rw [List.length_tail] at this
    have : 0 < (N.getD (q.getD i 0) []).length := List.length_pos_iff.2 hne
    omega)
  exact ⟨j, hj, by rw [h1, e], by rw [e]; exact h3, hne⟩
theorem Cmp.shB (hi : i < q.length) : ∃ t : Nat, sh.getD (q.getD i 0) 0 = (t : Int) ∧ t < N.length := by
  obtain ⟨t, h1, h2, h3⟩ := h.shv i hi
  exact ⟨t, h1, h2⟩
/-- the fallback -/
theorem Cmp.fall (hi : i < q.length) (hx : x < 6) (hs : q.getD i 0 ≠ 0) : At N (lsuf N ((N.getD (q.getD i 0) []).tail ++ [ltr x])) (fl.getD ((sh.getD (q.getD i 0) 0).toNat * 6 + x) 0) := by
  obtain ⟨j, hj, e1, e2, e3⟩ := h.short T hi hs
  have := h.f1 j x hj hx
  rw [e2, ← lsuf_snoc T.pc] at this
  rw [e1]; exact this
end
/-- the step of found -/
theorem Cmp.found {ps N : List Wrd} {f0 d0 : List Int} (T : Trie ps ps.length N f0 d0) {i : Nat} {q : List Nat} {sh fl fd : List Int} (h : Cmp ps N f0 d0 i 0 i q sh fl fd) (hi : i < q.length) :
    Cmp ps N f0 d0 i 0 (i + 1) q sh fl (if fd.getD (sh.getD (q.getD i 0) 0).toNat 0 ≥ 0 ∧ (fd.getD (q.getD i 0) 0 < 0 ∨ fd.getD (sh.getD (q.getD i 0) 0).toNat 0 < fd.getD (q.getD i 0) 0) then fd.set (q.getD i 0) (fd.getD (sh.getD (q.getD i 0) 0).toNat 0) else fd) := by
  have hold : fd.getD (q.getD i 0) 0 = d0.getD (q.getD i 0) 0 := h.d2 _ (h.lt i hi) (fun j hj e => by have := h.inj T (by omega) hi e; omega)
  have hF := T.fnd _ (h.lt i hi)
  rw [← hold] at hF
  have key : Lix (fun k => ps.getD k [] ≠ [] ∧ ps.getD k [] <:+ N.getD (q.getD i 0) []) ps.length (if fd.getD (sh.getD (q.getD i 0) 0).toNat 0 ≥ 0 ∧ (fd.getD (q.getD i 0) 0 < 0 ∨ fd.getD (sh.getD (q.getD i 0) 0).toNat 0 < fd.getD (q.getD i 0) 0) then fd.getD (sh.getD (q.getD i 0) 0).toNat 0 else fd.getD (q.getD i 0) 0) := by
    by_cases hs : q.getD i 0 = 0
    · have e0 : i = 0 := h.inj T hi h.q0.1 (by rw [hs, h.q0.2])
      have hsh := h.shv i hi
      rw [hs, T.z.2] at hsh
      have hsh0 := At.zero T hsh
      rw [hs] at hF ⊢
      rw [hsh0, T.z.2] at *
      have hm1 : fd.getD 0 0 = -1 := by
        rcases hF with ⟨e, _⟩ | ⟨k, _, _, h1, _⟩
        · exact e
        · exact absurd h1.2 h1.1
      rw [if_neg (fun hh => by have h1 := hh.1; rw [show (0 : Int).toNat = 0 from rfl, hm1] at h1; omega)]
      exact hF.congr fun k _ => and_congr_right fun hk => ⟨fun e => by rw [e]; exact List.suffix_refl _, fun e => List.suffix_nil.1 e⟩
    · obtain ⟨j, hj, e1, e2, e3⟩ := h.short T hi hs
      obtain ⟨a, u, hau⟩ := List.exists_cons_of_ne_nil e3
      have hO := h.d1 j hj
      rw [e2] at hO
      rw [hau] at hO hF ⊢
      have hO' : Lix (fun k => ps.getD k [] ≠ [] ∧ ps.getD k [] <:+ u) ps.length (fd.getD (q.getD j 0) 0) :=
        hO.congr fun k hk => and_congr_right fun hne => ⟨fun e => e.trans (lsuf_suf N u), fun e => suf_lsuf (T.mem k hk) u e⟩
      rw [e1]
      simp only [Int.toNat_natCast]
      have cg : ∀ k, k < ps.length → ((ps.getD k [] ≠ [] ∧ ps.getD k [] = a :: u) ∨ (ps.getD k [] ≠ [] ∧ ps.getD k [] <:+ u) ↔ (ps.getD k [] ≠ [] ∧ ps.getD k [] <:+ a :: u)) := fun k _ => by
        rw [List.suffix_cons_iff]
        constructor
        · rintro (⟨p, e⟩ | ⟨p, e⟩)
          · exact ⟨p, .inl e⟩
          · exact ⟨p, .inr e⟩
        · rintro ⟨p, e | e⟩
          · exact .inl ⟨p, e⟩
          · exact .inr ⟨p, e⟩
      by_cases hc : fd.getD (q.getD j 0) 0 ≥ 0 ∧ (fd.getD (q.getD i 0) 0 < 0 ∨ fd.getD (q.getD j 0) 0 < fd.getD (q.getD i 0) 0)
      · rw [if_pos hc]; exact (hF.or_new hO' hc).congr cg
      · rw [if_neg hc]; exact (hF.or_old hO' hc).congr cg
  generalize ho : fd.getD (sh.getD (q.getD i 0) 0).toNat 0 = o at key ⊢
  have hne : ∀ j, j < q.length → j ≠ i → q.getD i 0 ≠ q.getD j 0 := fun j hj hji e => hji (h.inj T hj hi e.symm)
  refine { le := h.le, x6 := h.x6, xi := h.xi, ml := by omega, q0 := h.q0, nd := h.nd, lt := h.lt, cl := h.cl, so := h.so, shl := h.shl, shv := h.shv, fll := h.fll, f1 := h.f1, f2 := h.f2, f3 := h.f3, fdl := ?_, d1 := ?_, d2 := ?_ }
  · split <;> simp [h.fdl]
  · intro j hj
    by_cases e : j = i
    · subst e
      split at key
      · rename_i hc; rw [if_pos hc, getD_set_eq (by rw [h.fdl]; exact h.lt j hi)]; exact key
      · rename_i hc; rw [if_neg hc]; exact key
    · have := h.d1 j (by omega)
      split
      · rw [getD_set_ne (hne j (by omega) e)]; exact this
      · exact this
  · intro s hs hj
    have := h.d2 s hs (fun j hj' => hj j (by omega))
    split
    · rw [getD_set_ne (hj i (by omega))]; exact this
    · exact this
section
variable {ps N : List Wrd} {f0 d0 : List Int} (T : Trie ps ps.length N f0 d0)
include T
variable {i x m : Nat} {q : List Nat} {sh fl fd : List Int} (h : Cmp ps N f0 d0 i x m q sh fl fd)
include h
/-- what stands at a letter that was not met -/
theorem Cmp.entry (hi : i < q.length) (hx : x < 6) : Tri N (N.getD (q.getD i 0) [] ++ [ltr x]) (fl.getD (q.getD i 0 * 6 + x) 0) := by
  rw [h.f3 _ x (h.lt i hi) hx (fun j hj e => by have := h.inj T (by omega) hi e; omega) (fun _ _ => Nat.le_refl _)]
  exact T.tr _ (h.lt i hi) x hx
/-- the fallback, for every state -/
theorem Cmp.fb (hi : i < q.length) (hx : x < 6) (hn : N.getD (q.getD i 0) [] ++ [ltr x] ∉ N) :
    At N (lsuf N (N.getD (q.getD i 0) [] ++ [ltr x])) (if q.getD i 0 = 0 then 0 else fl.getD ((sh.getD (q.getD i 0) 0).toNat * 6 + x) 0) := by
  by_cases hs : q.getD i 0 = 0
  · rw [if_pos hs, hs]
    rw [hs] at hn
    rw [T.z.2] at hn ⊢
    have : lsuf N ([] ++ [ltr x]) = [] := by
      show lsuf N (ltr x :: []) = []
      unfold lsuf
      rw [if_neg (show [ltr x] ∉ N from hn)]; rfl
    rw [this]; exact at_nil T
  · rw [if_neg hs]
    have := h.fall T hi hx hs
    obtain ⟨j, hj, e1, e2, e3⟩ := h.short T hi hs
    obtain ⟨a, u, hau⟩ := List.exists_cons_of_ne_nil e3
    rw [hau] at this hn ⊢
    have e : lsuf N (a :: u ++ [ltr x]) = lsuf N (u ++ [ltr x]) := by
      show lsuf N (a :: (u ++ [ltr x])) = _
      conv => lhs; unfold lsuf
      rw [if_neg (show a :: (u ++ [ltr x]) ∉ N from hn)]
    rw [e]; exact this
theorem Cmp.fb2 (hi : i < q.length) (hx : x < 6) :
    At N (lsuf N (N.getD (q.getD i 0) [] ++ [ltr x]).tail) (if q.getD i 0 = 0 then 0 else fl.getD ((sh.getD (q.getD i 0) 0).toNat * 6 + x) 0) := by
  by_cases hs : q.getD i 0 = 0
  · rw [if_pos hs, hs, T.z.2]; exact at_nil T
  · rw [if_neg hs]
    have := h.fall T hi hx hs
    obtain ⟨j, hj, e1, e2, e3⟩ := h.short T hi hs
    obtain ⟨a, u, hau⟩ := List.exists_cons_of_ne_nil e3
    rw [hau] at this ⊢
    exact this
/-- no child: the fallback is stored -/
theorem Cmp.none (hi : i < q.length) (hx : x < 6) (hz : fl.getD (q.getD i 0 * 6 + x) 0 = 0) :
    Cmp ps N f0 d0 i (x + 1) m q sh (fl.set (q.getD i 0 * 6 + x) (if q.getD i 0 = 0 then 0 else fl.getD ((sh.getD (q.getD i 0) 0).toNat * 6 + x) 0)) fd := by
  have hne : ∀ j, j < q.length → j ≠ i → q.getD i 0 ≠ q.getD j 0 := fun j hj hji e => hji (h.inj T hj hi e.symm)
  have hnot : N.getD (q.getD i 0) [] ++ [ltr x] ∉ N := fun hm => by
    rcases h.entry T hi hx with ⟨t, e, h1, h2⟩ | e
    · rw [hz] at e
      have : t = 0 := by omega
      rw [this, T.z.2] at h2; simp at h2
    · exact e.1 hm
  have hlt := h.lt i hi
  have hfl : q.getD i 0 * 6 + x < fl.length := by rw [h.fll]; omega
  have hfb := h.fb T hi hx hnot
  generalize (if q.getD i 0 = 0 then (0 : Int) else fl.getD ((sh.getD (q.getD i 0) 0).toNat * 6 + x) 0) = b at hfb ⊢
  refine { le := h.le, x6 := by omega, xi := fun _ => hi, ml := h.ml, q0 := h.q0, nd := h.nd, lt := h.lt, cl := ?_, so := h.so, shl := h.shl, shv := h.shv, fll := by simp [h.fll], f1 := ?_, f2 := ?_, f3 := ?_, fdl := h.fdl, d1 := h.d1, d2 := h.d2 }
  · intro t ht
    rw [h.cl t ht]
    constructor
    · rintro (e | e | ⟨y, hy, e⟩)
      · exact .inl e
      · exact .inr (.inl e)
      · exact .inr (.inr ⟨y, by omega, e⟩)
    · rintro (e | e | ⟨y, hy, e⟩)
      · exact .inl e
      · exact .inr (.inl e)
      · rcases Nat.lt_or_ge y x with k | k
        · exact .inr (.inr ⟨y, k, e⟩)
        · have : y = x := by omega
          subst this
          exact absurd (e ▸ getD_mem ht) hnot
  · intro j y hj hy
    have := hne j (by omega) (by omega)
    rw [getD_set_ne (by omega)]; exact h.f1 j y hj hy
  · intro y hy
    rcases Nat.lt_or_ge y x with k | k
    · rw [getD_set_ne (by omega)]; exact h.f2 y k
    · have : y = x := by omega
      subst this
      rw [getD_set_eq hfl]; exact hfb
  · intro s y hs hy h1 h2
    have : q.getD i 0 * 6 + x ≠ s * 6 + y := fun e => by
      have e1 : s = q.getD i 0 := by omega
      have := h2 e1 hi; omega
    rw [getD_set_ne this]
    exact h.f3 s y hs hy h1 (fun e k => by have := h2 e k; omega)
/-- a child: it waits -/
theorem Cmp.some (hi : i < q.length) (hx : x < 6) {t : Nat} (hz : fl.getD (q.getD i 0 * 6 + x) 0 = (t : Int)) (ht0 : t ≠ 0) :
    Cmp ps N f0 d0 i (x + 1) m (q ++ [t]) (sh.set t (if q.getD i 0 = 0 then 0 else fl.getD ((sh.getD (q.getD i 0) 0).toNat * 6 + x) 0)) fl fd := by
  have hne : ∀ j, j < q.length → j ≠ i → q.getD i 0 ≠ q.getD j 0 := fun j hj hji e => hji (h.inj T hj hi e.symm)
  have hat : t < N.length ∧ N.getD t [] = N.getD (q.getD i 0) [] ++ [ltr x] := by
    rcases h.entry T hi hx with ⟨t', e, h1, h2⟩ | e
    · rw [hz] at e
      have : t = t' := by omega
      rw [this]; exact ⟨h1, h2⟩
    · rw [hz] at e; omega
  obtain ⟨htN, hte⟩ := hat
  have hfb := h.fb2 T hi hx
  generalize (if q.getD i 0 = 0 then (0 : Int) else fl.getD ((sh.getD (q.getD i 0) 0).toNat * 6 + x) 0) = b at hfb ⊢
  have htq : t ∉ q := fun hm => by
    rcases (h.cl t htN).1 hm with e | ⟨j, y, hj, hy, e⟩ | ⟨y, hy, e⟩
    · exact ht0 e
    · rw [hte] at e
      have := getD_inj T.nd (h.lt i hi) (h.lt j (by omega)) (List.append_inj_left' e rfl)
      exact hne j (by omega) (by omega) this
    · rw [hte] at e
      have e2 := List.append_inj_right' e rfl
      simp at e2
      have := ltr_inj hx (by omega) e2; omega
  have gl : ∀ j, j < q.length → (q ++ [t]).getD j 0 = q.getD j 0 := fun j hj => getD_app_lt hj
  have gr : (q ++ [t]).getD q.length 0 = t := by rw [getD_app_ge (Nat.le_refl _)]; simp
  have hlen : (q ++ [t]).length = q.length + 1 := by simp
  have long : ∀ j, j < q.length → (N.getD (q.getD j 0) []).length ≤ (N.getD t []).length := fun j hj => by
    rw [hte]
    rcases (h.cl _ (h.lt j hj)).1 (getD_mem hj) with e | ⟨k, y, hk, hy, e⟩ | ⟨y, hy, e⟩
    · rw [e, T.z.2]; simp
    · rw [e]; have := h.so k i (by omega) hi; rw [List.length_append, List.length_append]; exact Nat.add_le_add_right this _
    · rw [e, List.length_append, List.length_append]; exact Nat.le_refl _
  have hsh : ∀ j, j < q.length → (sh.set t b).getD (q.getD j 0) 0 = sh.getD (q.getD j 0) 0 := fun j hj => getD_set_ne (fun e => htq (e ▸ getD_mem hj))
  refine { le := by rw [hlen]; have := h.le; omega, x6 := by omega, xi := fun _ => by rw [hlen]; omega, ml := by rw [hlen]; have := h.ml; omega, q0 := ⟨by rw [hlen]; omega, by rw [gl 0 h.q0.1]; exact h.q0.2⟩, nd := ?_, lt := ?_, cl := ?_, so := ?_, shl := by simp [h.shl], shv := ?_, fll := h.fll, f1 := ?_, f2 := ?_, f3 := ?_, fdl := h.fdl, d1 := ?_, d2 := ?_ }
  · rw [List.nodup_append]
    exact ⟨h.nd, by simp, fun a ha c hc => by simp at hc; subst hc; intro e; subst e; exact htq ha⟩
  · intro j hj
    rw [hlen] at hj
    rcases Nat.lt_or_ge j q.length with k | k
    · rw [gl j k]; exact h.lt j k
    · rw [show j = q.length by omega, gr]; exact htN
  · intro s hs
    rw [List.mem_append, h.cl s hs, gl i hi]
    constructor
    · rintro ((e | ⟨j, y, hj, hy, e⟩ | ⟨y, hy, e⟩) | e)
      · exact .inl e
      · exact .inr (.inl ⟨j, y, hj, hy, by rw [gl j (by omega)]; exact e⟩)
      · exact .inr (.inr ⟨y, by omega, e⟩)
      · simp at e; subst e; exact .inr (.inr ⟨x, by omega, hte⟩)
    · rintro (e | ⟨j, y, hj, hy, e⟩ | ⟨y, hy, e⟩)
      · exact .inl (.inl e)
      · exact .inl (.inr (.inl ⟨j, y, hj, hy, by rw [gl j (by omega)] at e; exact e⟩))
      · rcases Nat.lt_or_ge y x with k | k
        · exact .inl (.inr (.inr ⟨y, k, e⟩))
        · have : y = x := by omega
          subst this
          exact .inr (by simp; exact getD_inj T.nd hs htN (by rw [e, hte]))
  · intro a c hac hc
    rw [hlen] at hc
    rcases Nat.lt_or_ge c q.length with k | k
    · rw [gl c k, gl a (by omega)]; exact h.so a c hac k
    · have ec : c = q.length := by omega
      subst ec
      rw [gr]
      rcases Nat.lt_or_ge a q.length with k | k
      · rw [gl a k]; exact long a k
      · rw [show a = q.length by omega, gr]; exact Nat.le_refl _
  · intro j hj
    rw [hlen] at hj
    rcases Nat.lt_or_ge j q.length with k | k
    · rw [gl j k, hsh j k]; exact h.shv j k
    · have ec : j = q.length := by omega
      subst ec
      rw [gr, getD_set_eq (by rw [h.shl]; exact htN), hte]; exact hfb
  · intro j y hj hy
    rw [gl j (by omega)]; exact h.f1 j y hj hy
  · intro y hy
    rw [gl i hi]
    rcases Nat.lt_or_ge y x with k | k
    · exact h.f2 y k
    · have : y = x := by omega
      subst this
      have hm : N.getD (q.getD i 0) [] ++ [ltr y] ∈ N := hte ▸ getD_mem htN
      rw [lsuf_self hm, hz]
      exact ⟨t, rfl, htN, hte⟩
  · intro s y hs hy h1 h2
    exact h.f3 s y hs hy (fun j hj => by have := h1 j hj; rw [gl j (by omega)] at this; exact this) (fun e k => by have := h2 (by rw [gl i hi]; exact e) (by rw [hlen]; omega); omega)
  · intro j hj
    have := h.ml
    rw [gl j (by omega)]; exact h.d1 j hj
  · intro s hs hj
    have := h.ml
    exact h.d2 s hs (fun j hj' => by have := hj j hj'; rw [gl j (by omega)] at this; exact this)
end
theorem Cmp.next {ps N : List Wrd} {f0 d0 : List Int} (T : Trie ps ps.length N f0 d0) {i m : Nat} {q : List Nat} {sh fl fd : List Int} (h : Cmp ps N f0 d0 i 6 m q sh fl fd) : Cmp ps N f0 d0 (i + 1) 0 m q sh fl fd := by
  have hi := h.xi (by omega)
  refine { le := hi, x6 := by omega, xi := fun h => by omega, ml := h.ml, q0 := h.q0, nd := h.nd, lt := h.lt, cl := ?_, so := h.so, shl := h.shl, shv := h.shv, fll := h.fll, f1 := ?_, f2 := fun y hy => by omega, f3 := ?_, fdl := h.fdl, d1 := h.d1, d2 := h.d2 }
  · intro t ht
    rw [h.cl t ht]
    constructor
    · rintro (e | ⟨j, y, hj, hy, e⟩ | ⟨y, hy, e⟩)
      · exact .inl e
      · exact .inr (.inl ⟨j, y, by omega, hy, e⟩)
      · exact .inr (.inl ⟨i, y, by omega, hy, e⟩)
    · rintro (e | ⟨j, y, hj, hy, e⟩ | ⟨y, hy, e⟩)
      · exact .inl e
      · rcases Nat.lt_or_ge j i with k | k
        · exact .inr (.inl ⟨j, y, k, hy, e⟩)
        · rw [show j = i by omega] at e; exact .inr (.inr ⟨y, hy, e⟩)
      · omega
  · intro j y hj hy
    rcases Nat.lt_or_ge j i with k | k
    · exact h.f1 j y k hy
    · rw [show j = i by omega]; exact h.f2 y hy
  · intro s y hs hy h1 h2
    exact h.f3 s y hs hy (fun j hj => h1 j (by omega)) (fun e _ => absurd e.symm (h1 i (by omega)))
theorem Cmp.done {ps N : List Wrd} {f0 d0 : List Int} (T : Trie ps ps.length N f0 d0) {i : Nat} {q : List Nat} {sh fl fd : List Int} (h : Cmp ps N f0 d0 i 0 i q sh fl fd) (hi : i = q.length) : FinOK ps N fl fd := by
  have all : ∀ (n t : Nat), (N.getD t []).length = n → t < N.length → ∃ j, j < i ∧ q.getD j 0 = t := by
    intro n
    induction n with
    | zero =>
      intro t hn ht
      have e := nil_ix T ht (List.length_eq_zero_iff.1 hn)
      subst e
      exact ⟨0, by rw [hi]; exact h.q0.1, h.q0.2⟩
    | succ n ih =>
      intro t hn ht
      have hne : N.getD t [] ≠ [] := fun e => by rw [e] at hn; simp at hn
      obtain ⟨v, a, hva⟩ : ∃ v a, N.getD t [] = v ++ [a] := ⟨_, _, (List.dropLast_concat_getLast hne).symm⟩
      have htN : N.getD t [] ∈ N := getD_mem ht
      have hvN : v ∈ N := T.pc v a (hva ▸ htN)
      obtain ⟨r, hr, hrv⟩ := mem_getD [] hvN
      obtain ⟨j, hj, hjr⟩ := ih r (by rw [hrv]; rw [hva] at hn; simpa using hn) hr
      have hal := T.al _ htN a (by rw [hva]; simp)
      have hay : a = ltr (a.toNat - 97) := UInt8.toNat_inj.1 (by rw [ltr_toNat (by omega)]; omega)
      have hq : t ∈ q := (h.cl t ht).2 (.inr (.inl ⟨j, a.toNat - 97, hj, by omega, by rw [hjr, hrv, ← hay, hva]⟩))
      obtain ⟨b, hb, hbt⟩ := mem_getD 0 hq
      exact ⟨b, by omega, hbt⟩
  refine ⟨T.nd, T.z, T.pc, T.al, h.fll, h.fdl, T.mem, fun s hs x hx => ?_, fun s hs => ?_⟩
  · obtain ⟨j, hj, rfl⟩ := all _ s rfl hs
    exact h.f1 j x hj hx
  · obtain ⟨j, hj, rfl⟩ := all _ s rfl hs
    exact h.d1 j hj
end Go.Sx
namespace Go.Sx
open Go.RowKit
def qz (q : List Nat) : List Int := q.map fun t : Nat => (t : Int)
theorem qz_len (q : List Nat) : (qz q).length = q.length := by simp [qz]
theorem qz_get (q : List Nat) (i : Nat) : (qz q).getD i 0 = ((q.getD i 0 : Nat) : Int) := by
  unfold qz
  rw [List.getD_eq_getElem?_getD, List.getD_eq_getElem?_getD, List.getElem?_map]
  cases q[i]? <;> rfl
theorem qz_snoc (q : List Nat) (t : Nat) : qz (q ++ [t]) = qz q ++ [(t : Int)] := by simp [qz]
/-- a row of six, as a value -/
def av6 (fl : List Int) (s : Nat) : Value := .agg (((fl.map (Value.int .i32)).drop (s * 6)).take 6).toArray
theorem at6 {fl : List Int} {p : Nat} (h : p < fl.length) {p' : Nat} (e : p' = p) : (fl.map (Value.int .i32))[p']? = some (.int .i32 (fl.getD p 0)) := by
  subst e
  rw [List.getElem?_map, List.getD_eq_getElem?_getD, List.getElem?_eq_getElem h]; rfl
theorem av6_get {fl : List Int} {s x : Nat} (hx : x < 6) (h : s * 6 + x < fl.length) : ((((fl.map (Value.int .i32)).drop (s * 6)).take 6).toArray)[((x : Nat) : Int).toNat]? = some (.int .i32 (fl.getD (s * 6 + x) 0)) := by
  rw [Int.toNat_natCast]
  simp only [List.getElem?_toArray, List.getElem?_take, hx, if_true, List.getElem?_drop]
  exact at6 h rfl
theorem set_map6 {fl : List Int} {p p' : Nat} {b : Int} {u : Value} (e : p' = p) (hu : u = .int .i32 b) : (fl.map (Value.int .i32)).set p' u = (fl.set p b).map (Value.int .i32) := by
  subst e; subst hu; rw [List.map_set]
end Go.Sx
