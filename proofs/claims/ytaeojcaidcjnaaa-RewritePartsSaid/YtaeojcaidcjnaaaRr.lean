import Derived.Test.YtaeojcaidcjnaaaRq
set_option linter.unusedVariables false
set_option linter.unusedSimpArgs false
namespace Go.Sx
open Go.RowKit
theorem up_len (P : Nat → Bool) (f : Nat → Crit) : ∀ n, (up P f n).length ≤ n
  | 0 => Nat.le_refl _
  | n + 1 => by
    have := up_len P f n
    unfold up
    rw [List.length_append]
    split <;> simp <;> omega
theorem crJ_len {L : Int} {rs : List Rul} (hV : VR L rs) {i : Nat} (hi : i < rs.length) : ∀ j, j ≤ rs.length → (crJ rs i j).length ≤ j * 4100
  | 0, _ => by simp [crJ]
  | j + 1, hj => by
    have h1 := crJ_len hV hi j (by omega)
    have h2 := up_len (ovP (rs.getD i ([], [])) (rs.getD j ([], []))) (ovk (rs.getD i ([], [])) (rs.getD j ([], []))) (min (rs.getD i ([], [])).1.length (rs.getD j ([], [])).1.length)
    have h3 := up_len (cnP (rs.getD i ([], [])) (rs.getD j ([], []))) (cnk (rs.getD i ([], [])) (rs.getD j ([], []))) ((rs.getD i ([], [])).1.length + 1)
    have h4 := (validW_al (hV.v _ (getD_mem (d := ([], [])) hi)).1).1
    show (crJ rs i j ++ _).length ≤ _
    rw [List.length_append, List.length_append]
    unfold ovl
    split
    · simp only [List.length_nil]; omega
    · unfold cnl; omega
theorem crI_len {L : Int} {rs : List Rul} (hV : VR L rs) : ∀ i, i ≤ rs.length → (crI rs i).length ≤ i * 8200000
  | 0, _ => by simp [crI]
  | i + 1, hi => by
    have h1 := crI_len hV i (by omega)
    have h2 := crJ_len hV (show i < rs.length by omega) rs.length (Nat.le_refl _)
    have := hV.n
    show (crI rs i ++ crJ rs i rs.length).length ≤ _
    rw [List.length_append]; omega
theorem crA_len {L : Int} {rs : List Rul} (hV : VR L rs) {q : List Crit} (hq : q <+: crA rs) : q.length ≤ 16400000000 := by
  have h1 := crI_len hV rs.length (Nat.le_refl _)
  have h2 := hV.n
  have h3 := hq.length_le
  unfold crA at h3
  omega
theorem crc_snoc (l : List Crit) (c : Crit) : crc (l ++ [c]) = crc l ++ ccs c := by simp [crc]
end Go.Sx
