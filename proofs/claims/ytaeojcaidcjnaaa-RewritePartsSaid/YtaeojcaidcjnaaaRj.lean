import Derived.Test.YtaeojcaidcjnaaaRi
import Derived.Lib.IndexMore
set_option linter.unusedVariables false
set_option linter.unusedSimpArgs false
namespace Go.Sx
open Go.RowKit
theorem ext_lt {P : Nat → Prop} {n : Nat} (h : ∀ j, j < n → P j) (hn : P n) : ∀ j, j < n + 1 → P j := fun j hj => by
  rcases Nat.lt_or_ge j n with k | k
  · exact h j k
  · rw [show j = n by omega]; exact hn
theorem noPre_eq {L u : Wrd} (h : ¬ u.take L.length = L) : ¬ L <+: u := fun k => h (List.prefix_iff_eq_take.1 k).symm
theorem noPre_len {L u : Wrd} (h : u.length < L.length) : ¬ L <+: u := fun k => by have := k.length_le; omega
theorem pre_eq {L u : Wrd} (h : u.take L.length = L) : L <+: u := List.prefix_iff_eq_take.2 h.symm
/-- what once answers -/
def onV (rs : List Rul) (u : Wrd) : Wrd := (once rs u).getD u
theorem on_some {rs : List Rul} {u v : Wrd} (h : once rs u = some v) : onV rs u = v ∧ (once rs u).isSome = true := by simp [onV, h]
theorem on_none {rs : List Rul} {u : Wrd} (h : once rs u = none) : onV rs u = u ∧ (once rs u).isSome = false := by simp [onV, h]
theorem once_shape {rs : List Rul} : ∀ {u v : Wrd}, once rs u = some v → ∃ i r, r ∈ rs ∧ r.1 <+: u.drop i ∧ i < u.length ∧ v = u.take i ++ r.2 ++ u.drop (i + r.1.length)
  | [], v, h => by cases h
  | a :: u, v, h => by
    unfold once at h
    cases hr : ruleAt rs (a :: u) with
    | some r =>
      rw [hr] at h
      cases h
      obtain ⟨h1, h2⟩ := ruleAt_pre hr
      exact ⟨0, r, h2, h1, by simp, by simp⟩
    | none =>
      rw [hr] at h
      cases ho : once rs u with
      | none => rw [ho] at h; cases h
      | some w =>
        rw [ho] at h
        cases h
        obtain ⟨i, r, h1, h2, h3, h4⟩ := once_shape ho
        exact ⟨i + 1, r, h1, h2, by simpa using h3, by rw [h4, show i + 1 + r.1.length = (i + r.1.length) + 1 by omega]; simp⟩
theorem Al.app {u v : Wrd} (hu : ∀ c ∈ u, 97 ≤ c.toNat ∧ c.toNat < 103) (hv : ∀ c ∈ v, 97 ≤ c.toNat ∧ c.toNat < 103) : ∀ c ∈ u ++ v, 97 ≤ c.toNat ∧ c.toNat < 103 := fun c hc =>
  (List.mem_append.1 hc).elim (hu c) (hv c)
theorem Al.mem {u : Wrd} (h : Al u) : ∀ c ∈ u, 97 ≤ c.toNat ∧ c.toNat < 103 := fun c hc => by
  obtain ⟨j, hj, e⟩ := mem_getD 0 hc
  rw [← e]; exact h.2 j hj
theorem Al.mk' {u : Wrd} (hl : u.length ≤ 2048) (h : ∀ c ∈ u, 97 ≤ c.toNat ∧ c.toNat < 103) : Al u := ⟨hl, fun k hk => h _ (getD_mem hk)⟩
theorem once_al {L : Int} {rs : List Rul} (hV : VR L rs) {u v : Wrd} (hu : Al u) (h : once rs u = some v) : Al v ∧ v.length ≤ u.length := by
  obtain ⟨i, r, h1, h2, h3, rfl⟩ := once_shape h
  obtain ⟨k, hk, e⟩ := mem_getD ([], []) h1
  have hlr := (hV.left hk).2
  rw [e] at hlr
  have hl := h2.length_le
  rw [List.length_drop] at hl
  have hlen : (u.take i ++ r.2 ++ u.drop (i + r.1.length)).length ≤ u.length := by simp; omega
  have ha := validW_al (hV.v r h1).2.1
  exact ⟨Al.mk' (Nat.le_trans hlen hu.1) (Al.app (Al.app (fun c hc => hu.mem c (List.mem_of_mem_take hc)) ha.mem) (fun c hc => hu.mem c (List.mem_of_mem_drop hc))), hlen⟩
/-- the reference's loop -/
theorem red_go {rs : List Rul} {u v w : Wrd} {k : Nat} (h : redF rs (100000 - k) v = redF rs 100000 u) (hk : k ≤ 100000) (hn : k ≠ 100000) (ho : once rs v = some w) : redF rs (100000 - (k + 1)) w = redF rs 100000 u := by
  rw [← h, show 100000 - k = (100000 - (k + 1)) + 1 by omega, redF_some ho]
theorem red_end {rs : List Rul} {u v : Wrd} {k : Nat} (h : redF rs (100000 - k) v = redF rs 100000 u) (ho : once rs v = none) : redF rs 100000 u = some v := by
  rw [← h, redF_none ho]
theorem red_lim {rs : List Rul} {u v w : Wrd} {k : Nat} (h : redF rs (100000 - k) v = redF rs 100000 u) (hn : k = 100000) (ho : once rs v = some w) : redF rs 100000 u = none := by
  rw [← h, hn, Nat.sub_self, redF_zero ho]
/-- no rule can be applied, by strings.Contains -/
theorem contains_iff (u L : Wrd) : Lib.contains u L = true ↔ ∃ i, i ≤ u.length ∧ L <+: u.drop i := by
  unfold Lib.contains
  rw [decide_eq_true_eq]
  rcases Lib.index_spec u L with ⟨h, hn⟩ | ⟨i, h, hi, ho, _⟩
  · rw [h]
    refine ⟨fun k => by omega, fun ⟨i, hi, hp⟩ => ?_⟩
    have := hn i hi
    unfold Lib.occAt at this
    rw [List.isPrefixOf_iff_prefix.2 hp] at this; cases this
  · rw [h]
    exact ⟨fun _ => ⟨i, hi, List.isPrefixOf_iff_prefix.1 ho⟩, fun _ => by omega⟩
theorem ruleAt_none_iff {rs : List Rul} {u : Wrd} : ruleAt rs u = none ↔ ∀ j, j < rs.length → ¬ (rs.getD j ([], [])).1 <+: u := by
  refine ⟨fun h j hj hp => ?_, ruleAt_no⟩
  unfold ruleAt at h
  rw [List.find?_eq_none] at h
  exact h _ (getD_mem hj) (List.isPrefixOf_iff_prefix.2 hp)
theorem no_once {L : Int} {rs : List Rul} (hV : VR L rs) {u : Wrd} : once rs u = none ↔ ∀ j, j < rs.length → ¬ Lib.contains u (rs.getD j ([], [])).1 = true := by
  rw [once_none]
  constructor
  · intro h j hj hc
    obtain ⟨i, hi, hp⟩ := (contains_iff _ _).1 hc
    have hne := (hV.left hj).1
    have hil : i < u.length := by
      rcases Nat.lt_or_ge i u.length with k | k
      · exact k
      · rw [List.drop_eq_nil_of_le k] at hp
        exact absurd (List.prefix_nil.1 hp) hne
    exact ruleAt_none_iff.1 (h i hil) j hj hp
  · intro h i hi
    exact ruleAt_none_iff.2 fun j hj hp => h j hj ((contains_iff _ _).2 ⟨i, by omega, hp⟩)
/-- what Reduced answers -/
def RdcV (rs : List Rul) (u : Wrd) : Bool := decide (errR 6 rs = 0) && (validW 6 u && (once rs u).isNone)
theorem rdc_bad {rs : List Rul} {u : Wrd} (h : errR 6 rs ≠ 0 ∨ ¬ validW 6 u = true) : RdcV rs u = false := by
  unfold RdcV
  rcases h with h | h
  · rw [decide_eq_false h]; rfl
  · cases hv : validW 6 u
    · simp
    · exact absurd hv h
theorem rdc_ok {rs : List Rul} {u : Wrd} (h : errR 6 rs = 0) (hv : validW 6 u = true) : RdcV rs u = (once rs u).isNone := by
  unfold RdcV
  rw [decide_eq_true h, hv]; rfl
/-- the reference's answer, for valid rules -/
def RefV (rs : List Rul) (u : Wrd) : Wrd := if validW 6 u = true then redV rs u else []
def RefE (rs : List Rul) (u : Wrd) : Int := if validW 6 u = true then redE rs u else 1
theorem ref_eq {rs : List Rul} {u : Wrd} (h : errR 6 rs = 0) (hv : validW 6 u = true) : RefV rs u = RedV rs u ∧ RefE rs u = RedE rs u := by
  unfold RefV RefE RedV RedE
  rw [if_pos hv, if_pos hv, if_pos ⟨h, hv⟩, if_neg (fun k => k h)]; exact ⟨rfl, rfl⟩
/-- the cell of bytealg.MaxLen holds a number -/
def MxA (w : World) : Prop := ∃ m, w.cell? ⟨0, 0, none⟩ = some (.int .i64 m)
theorem MxA.at {C : Cx} {own : List Asn} {w : World} (h : MxA C.W0) (hw : HW C own w) (hS : ∀ b, ¬ C.S b := by exact fun _ h => h) : MxA w := by
  obtain ⟨m, hm⟩ := h
  have hf := hw.frame
  have hlt : 0 < C.W0.heap.size := by
    unfold World.cell? at hm
    rcases Nat.lt_or_ge 0 C.W0.heap.size with k | k
    · exact k
    · rw [Array.getElem?_eq_none (by simpa using k)] at hm; simp at hm
  exact ⟨m, by rw [World.cell?_of_block (hf.block 0 hlt (hS 0))]; exact hm⟩
end Go.Sx
