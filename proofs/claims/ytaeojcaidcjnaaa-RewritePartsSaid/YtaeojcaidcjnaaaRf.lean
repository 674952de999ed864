import Derived.Test.YtaeojcaidcjnaaaRe
set_option linter.unusedVariables false
set_option linter.unusedSimpArgs false
namespace Go.Sx
open Go.RowKit
/-- the state behind the first k + 1 letters -/
def StA (N : List Wrd) (T : Wrd) (k : Nat) (z : Int) : Prop := At N (lsuf N (T.take (k + 1))) z
theorem At.nat {N : List Wrd} {u : Wrd} {z : Int} (h : At N u z) : ∃ t : Nat, z = (t : Int) ∧ t < N.length := by
  obtain ⟨t, e, h1, _⟩ := h; exact ⟨t, e, h1⟩
theorem FinOK.step {ps N : List Wrd} {fl fd : List Int} (h : FinOK ps N fl fd) {T : Wrd} {k : Nat} (hk : k < T.length) {t x : Nat} (hz : At N (lsuf N (T.take k)) (t : Int)) (hx : x < 6) (hc : T.getD k 0 = ltr x) : StA N T k (fl.getD (t * 6 + x) 0) := by
  obtain ⟨t', e, h1, h2⟩ := hz
  have : t = t' := by omega
  subst this
  have := h.go t h1 x hx
  unfold StA
  rw [take_ltr hk hc, lsuf_snoc h.pc, ← h2]; exact this
theorem FinOK.at0 {ps N : List Wrd} {fl fd : List Int} (h : FinOK ps N fl fd) (T : Wrd) : At N (lsuf N (T.take 0)) 0 := ⟨0, rfl, h.z.1, h.z.2⟩
/-- the states that are read again: from k on they are old ones -/
structure RdI3 (N : List Wrd) (T : Wrd) (R : List Int) (fr k : Nat) (R' : List Int) (z : Int) : Prop where
  kl : fr ≤ k ∧ k ≤ T.length
  len : R'.length = T.length
  st : At N (lsuf N (T.take k)) z
  ok : ∀ j, j < k → StA N T j (R'.getD j 0)
  old : ∀ j, k ≤ j → R'.getD j 0 = R.getD j 0
theorem RdI3.next {N : List Wrd} {T : Wrd} {R R' : List Int} {fr k : Nat} {z y : Int} (h : RdI3 N T R fr k R' z) (hk : k < T.length) (hy : StA N T k y) : RdI3 N T R fr (k + 1) (R'.set k y) y where
  kl := by have := h.kl; omega
  len := by rw [List.length_set]; exact h.len
  st := hy
  ok := fun j hj => by
    by_cases e : j = k
    · subst e; rw [getD_set_eq (by rw [h.len]; exact hk)]; exact hy
    · rw [getD_set_ne (fun e' => e e'.symm)]; exact h.ok j (by omega)
  old := fun j hj => by rw [getD_set_ne (by omega)]; exact h.old j (by omega)
/-- the states agree: the rest is right, if old states hang together -/
theorem RdI3.stop {N : List Wrd} {T : Wrd} {R R' : List Int} {fr k sure : Nat} {z y : Int} (h : RdI3 N T R fr k R' z) (hk : k < T.length) (hy : StA N T k y) (hs : sure ≤ k) (he : R'.getD k 0 = y)
    (hc : ∀ j, sure ≤ j → j + 1 < T.length → StA N T j (R.getD j 0) → StA N T (j + 1) (R.getD (j + 1) 0)) : ∀ j, j < T.length → StA N T j (R'.getD j 0) := by
  have up : ∀ n, k + n < T.length → StA N T (k + n) (R'.getD (k + n) 0) := by
    intro n
    induction n with
    | zero => intro _; rw [Nat.add_zero, he]; exact hy
    | succ n ih =>
      intro hn
      have := ih (by omega)
      rw [h.old _ (by omega)] at this
      rw [show k + (n + 1) = k + n + 1 by omega, h.old _ (by omega)]
      exact hc _ (by omega) (by omega) this
  intro j hj
  rcases Nat.lt_or_ge j k with e | e
  · exact h.ok j e
  · have := up (j - k) (by omega)
    rw [show k + (j - k) = j by omega] at this; exact this
end Go.Sx
