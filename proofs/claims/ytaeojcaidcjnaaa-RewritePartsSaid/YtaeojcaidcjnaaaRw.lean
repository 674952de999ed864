import Derived.Test.YtaeojcaidcjnaaaRt
set_option linter.unusedVariables false
set_option linter.unusedSimpArgs false
namespace Go.Sx
open Go.RowKit
/-! ### the words of a critical pair have letters of the alphabet -/
def Lt (u : Wrd) : Prop := ∀ c ∈ u, 97 ≤ c.toNat ∧ c.toNat < 103
theorem Al.lt {u : Wrd} (h : Al u) : Lt u := fun c hc => by
  obtain ⟨k, hk, e⟩ := mem_getD 0 hc
  rw [← e]; exact h.2 k hk
theorem Lt.al {u : Wrd} (h : Lt u) (hl : u.length ≤ 2048) : Al u := ⟨hl, fun k hk => h _ (getD_mem hk)⟩
theorem Lt.app {u v : Wrd} (h : Lt u) (k : Lt v) : Lt (u ++ v) := fun c hc => (List.mem_append.1 hc).elim (h c) (k c)
theorem Lt.take {u : Wrd} (h : Lt u) (n : Nat) : Lt (u.take n) := fun c hc => h c (List.mem_of_mem_take hc)
theorem Lt.drop {u : Wrd} (h : Lt u) (n : Nat) : Lt (u.drop n) := fun c hc => h c (List.mem_of_mem_drop hc)
theorem up_in {P : Nat → Bool} {f : Nat → Crit} {c : Crit} : ∀ n, c ∈ up P f n → ∃ k, c = f k
  | 0, h => by cases h
  | n + 1, h => by
    unfold up at h
    rcases List.mem_append.1 h with k | k
    · exact up_in n k
    · split at k
      · exact ⟨n, List.mem_singleton.1 k⟩
      · cases k
def InRu (rs : List Rul) (c : Crit) : Prop := ∃ a b k, a ∈ rs ∧ b ∈ rs ∧ (c = ovk a b k ∨ c = cnk a b k)
theorem crJ_in {rs : List Rul} {i : Nat} (hi : i < rs.length) {c : Crit} : ∀ j, j ≤ rs.length → c ∈ crJ rs i j → InRu rs c
  | 0, _, h => by cases h
  | j + 1, hj, h => by
    have h' : c ∈ crJ rs i j ++ (ovl (rs.getD i ([], [])) (rs.getD j ([], [])) ++ if i = j then [] else cnl (rs.getD i ([], [])) (rs.getD j ([], []))) := h
    rcases List.mem_append.1 h' with k | k
    · exact crJ_in hi j (by omega) k
    · rcases List.mem_append.1 k with k | k
      · obtain ⟨n, e⟩ := up_in _ k
        exact ⟨_, _, n, getD_mem hi, getD_mem (show j < rs.length by omega), .inl e⟩
      · split at k
        · cases k
        · obtain ⟨n, e⟩ := up_in _ k
          exact ⟨_, _, n, getD_mem hi, getD_mem (show j < rs.length by omega), .inr e⟩
theorem crI_in {rs : List Rul} {c : Crit} : ∀ i, i ≤ rs.length → c ∈ crI rs i → InRu rs c
  | 0, _, h => by cases h
  | i + 1, hi, h => by
    rcases List.mem_append.1 h with k | k
    · exact crI_in i (by omega) k
    · exact crJ_in (show i < rs.length by omega) _ (Nat.le_refl _) k
theorem crA_lt {L : Int} {rs : List Rul} (hV : VR L rs) {c : Crit} (h : c ∈ crA rs) : Lt c.2.1 ∧ Lt c.2.2 := by
  obtain ⟨a, b, k, ha, hb, e⟩ := crI_in _ (Nat.le_refl _) h
  have a1 := (validW_al (hV.v _ ha).1).lt
  have a2 := (validW_al (hV.v _ ha).2.1).lt
  have b1 := (validW_al (hV.v _ hb).1).lt
  have b2 := (validW_al (hV.v _ hb).2.1).lt
  rcases e with rfl | rfl
  · exact ⟨a2.app (b1.drop _), (a1.take _).app b2⟩
  · exact ⟨a2, ((a1.take _).app b2).app (a1.drop _)⟩
theorem crA_al1 {L : Int} {rs : List Rul} (hV : VR L rs) {pre : List Crit} {c : Crit} (h : pre ++ [c] <+: crA rs) (hl : c.2.1.length ≤ 2048) : Al c.2.1 := (crA_lt hV (h.subset (by simp))).1.al hl
theorem crA_al2 {L : Int} {rs : List Rul} (hV : VR L rs) {pre : List Crit} {c : Crit} (h : pre ++ [c] <+: crA rs) (hl : c.2.2.length ≤ 2048) : Al c.2.2 := (crA_lt hV (h.subset (by simp))).2.al hl
/-! ### one pair -/
theorem crOk_long {rs : List Rul} {c : Crit} (h : 2048 < c.2.1.length ∨ 2048 < c.2.2.length) : crOk rs c = some (([], [], []), false, 3) := if_pos h
theorem crOk_lim1 {rs : List Rul} {c : Crit} (h1 : c.2.1.length ≤ 2048) (h2 : c.2.2.length ≤ 2048) (h : redE rs c.2.1 ≠ 0) : redE rs c.2.1 = 3 ∧ crOk rs c = some (([], [], []), false, 3) := by
  rcases red_cases rs c.2.1 with ⟨x, e1, e2, e3⟩ | ⟨e1, e2, e3⟩
  · exact absurd e3 h
  · refine ⟨e3, ?_⟩
    unfold crOk
    rw [if_neg (by omega), e1]
theorem crOk_lim2 {rs : List Rul} {c : Crit} (h1 : c.2.1.length ≤ 2048) (h2 : c.2.2.length ≤ 2048) (h : redE rs c.2.2 ≠ 0) : redE rs c.2.2 = 3 ∧ crOk rs c = some (([], [], []), false, 3) := by
  rcases red_cases rs c.2.2 with ⟨x, e1, e2, e3⟩ | ⟨e1, e2, e3⟩
  · exact absurd e3 h
  · refine ⟨e3, ?_⟩
    unfold crOk
    rw [if_neg (by omega), e1]
    split
    · rename_i k; cases k
    · rfl
theorem crOk_ok {rs : List Rul} {c : Crit} (h1 : c.2.1.length ≤ 2048) (h2 : c.2.2.length ≤ 2048) (k1 : redE rs c.2.1 = 0) (k2 : redE rs c.2.2 = 0) : crOk rs c = if redV rs c.2.1 = redV rs c.2.2 then none else some (c, false, 0) := by
  rcases red_cases rs c.2.1 with ⟨x, e1, e2, e3⟩ | ⟨e1, e2, e3⟩
  · rcases red_cases rs c.2.2 with ⟨y, f1, f2, f3⟩ | ⟨f1, f2, f3⟩
    · unfold crOk
      rw [if_neg (by omega), e1, f1, e2, f2]
    · rw [f3] at k2; cases k2
  · rw [e3] at k1; cases k1
/-! ### what Confluent answers -/
def CfR (rs : List Rul) : Crit × Bool × Int := if errR 6 rs ≠ 0 then (([], [], []), false, errR 6 rs) else cfR rs (crA rs)
def cfv (z : Crit × Bool × Int) : List Value := [cv z.1, .bool z.2.1, .int .i64 z.2.2]
theorem allOk_getD {rs : List Rul} {k : Nat} (hk : k < (crA rs).length) (h : AllOk rs ((crA rs).take k)) (hc : crOk rs ((crA rs).getD k ([], [], [])) = none) : AllOk rs ((crA rs).take (k + 1)) := by
  rw [take_snocD ([], [], []) _ k hk]; exact h.snoc hc
theorem cfR_getD {rs : List Rul} {k : Nat} (hk : k < (crA rs).length) (h : AllOk rs ((crA rs).take k)) {z : Crit × Bool × Int} (hc : crOk rs ((crA rs).getD k ([], [], [])) = some z) : cfR rs (crA rs) = z := by
  refine cfR_first (pre := (crA rs).take k) ?_ h hc
  rw [← take_snocD ([], [], []) _ k hk]; exact List.take_prefix _ _
theorem crA_pre {rs : List Rul} {k : Nat} (hk : k < (crA rs).length) : (crA rs).take k ++ [(crA rs).getD k ([], [], [])] <+: crA rs := by
  rw [← take_snocD ([], [], []) _ k hk]; exact List.take_prefix _ _
theorem refV_al {rs : List Rul} {u : Wrd} (h : Al u) : RefV rs u = redV rs u ∧ RefE rs u = redE rs u := ⟨if_pos (al_valid h), if_pos (al_valid h)⟩
end Go.Sx
