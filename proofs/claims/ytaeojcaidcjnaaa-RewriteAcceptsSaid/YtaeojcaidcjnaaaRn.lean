import Derived.Test.YtaeojcaidcjnaaaRm
set_option linter.unusedVariables false
set_option linter.unusedSimpArgs false
namespace Go.Sx
open Go.RowKit
theorem bbeq (a b : List UInt8) : ((⟨a.toArray⟩ : ByteArray) == ⟨b.toArray⟩) = decide (a = b) := by
  show (a.toArray == b.toArray) = decide (a = b)
  rw [Bool.eq_iff_iff, beq_iff_eq, decide_eq_true_eq]
  constructor
  · intro h; simpa using h
  · intro h; rw [h]
theorem keyStr {P : Program} {kt : TypeId} (hk : P.underlying kt = some .string) : KeyL P kt sv where
  find := by
    intro a es ks w h
    have now : ∀ (es : List MapEntry) (ks : List (List UInt8)) (j : Nat), es.map (·.key) = ks.map sv → Instr.findNow .string (sv a) es j = some ((fidx a ks).bind fun i => (es[i]?).map fun e => (j + i, e.val)) := by
      intro es
      induction es with
      | nil => intro ks j h; cases ks with
        | nil => simp [Instr.findNow, fidx]
        | cons k ks => simp at h
      | cons e es ih =>
        intro ks j h
        cases ks with
        | nil => simp at h
        | cons k ks =>
          simp at h
          have hq : Instr.sameNow .string (sv a) (sv k) = some (decide (a = k)) := by
            show some ((⟨a.toArray⟩ : ByteArray) == ⟨k.toArray⟩) = _
            rw [bbeq]
          simp only [Instr.findNow, h.1, hq, fidx]
          by_cases hak : a = k
          · simp [hak]
          · simp only [hak, decide_false, if_false]
            rw [ih ks (j + 1) (by simpa using h.2)]
            cases fidx a ks with
            | none => simp
            | some i =>
              simp only [Option.map_some, Option.bind_some, List.getElem?_cons_succ]
              cases es[i]? with
              | none => rfl
              | some e' => simp; omega
    simp only [Instr.findKey, Sem.run_bind, run_underlying hk, Result.andThen_ok, now es ks 0 h]
    simp
  check := by
    intro e a w
    have : ∀ n, (Instr.checkKey e (n + 1) kt (sv a)).run P w = .ok () w := fun n => by simp [Instr.checkKey, run_underlying hk, sv]
    exact this 9999
  same := by
    intro a
    have : ∀ n, Instr.sameBits (n + 1) (sv a) (sv a) = true := fun n => by
      show ((⟨a.toArray⟩ : ByteArray) == ⟨a.toArray⟩) = true
      rw [bbeq]; simp
    exact this 9999

/-- the proper beginnings of the first i Lefts, and those of the next one that are shorter than n -/
structure PfI (rs : List Rul) (i n : Nat) (S : List Wrd) : Prop where
  nd : S.Nodup
  z : 0 < S.length ∧ S.getD 0 [] = []
  il : i ≤ rs.length
  n1 : 1 ≤ n
  nl : i < rs.length → n ≤ (rs.getD i ([], [])).1.length
  mem : ∀ u, u ∈ S ↔ u = [] ∨ (∃ j m, j < i ∧ 1 ≤ m ∧ m < (rs.getD j ([], [])).1.length ∧ u = (rs.getD j ([], [])).1.take m) ∨ (∃ m, 1 ≤ m ∧ m < n ∧ u = (rs.getD i ([], [])).1.take m)
  len : S.length ≤ tot (lfs rs) i + n
section
variable {L : Int} {rs : List Rul} {S : List Wrd} {i n : Nat}
theorem PfI.init (hV : VR L rs) : PfI rs 0 1 [[]] where
  nd := by simp
  z := ⟨by simp, rfl⟩
  il := Nat.zero_le _
  n1 := Nat.le_refl _
  nl := fun h => by have := List.length_pos_iff.2 (hV.left h).1; omega
  mem := fun u => by
    constructor
    · intro h; exact .inl (by simpa using h)
    · rintro (h | ⟨j, m, h, _⟩ | ⟨m, h1, h2, _⟩)
      · simp [h]
      · omega
      · omega
  len := by simp
theorem PfI.skip (h : PfI rs i n S) (hi : i < rs.length) (hn : n < (rs.getD i ([], [])).1.length) (hm : (rs.getD i ([], [])).1.take n ∈ S) : PfI rs i (n + 1) S where
  nd := h.nd
  z := h.z
  il := h.il
  n1 := by omega
  nl := fun k => by omega
  mem := fun u => ⟨fun hu => by
      rcases (h.mem u).1 hu with a | b | ⟨m, h1, h2, h3⟩
      · exact .inl a
      · exact .inr (.inl b)
      · exact .inr (.inr ⟨m, h1, by omega, h3⟩), fun k => by
      rcases k with a | b | ⟨m, h1, h2, h3⟩
      · exact (h.mem u).2 (.inl a)
      · exact (h.mem u).2 (.inr (.inl b))
      · by_cases e : m = n
        · rw [h3, e]; exact hm
        · exact (h.mem u).2 (.inr (.inr ⟨m, h1, by omega, h3⟩))⟩
  len := by have := h.len; omega
theorem PfI.add (h : PfI rs i n S) (hi : i < rs.length) (hn : n < (rs.getD i ([], [])).1.length) (hm : (rs.getD i ([], [])).1.take n ∉ S) : PfI rs i (n + 1) (S ++ [(rs.getD i ([], [])).1.take n]) where
  nd := by
    rw [List.nodup_append]
    exact ⟨h.nd, by simp, fun a ha c hc => by simp at hc; subst hc; intro e; subst e; exact hm ha⟩
  z := ⟨by simp, by rw [getD_app_lt h.z.1]; exact h.z.2⟩
  il := h.il
  n1 := by omega
  nl := fun k => by omega
  mem := fun u => ⟨fun hu => by
      rcases List.mem_append.1 hu with hu | hu
      · rcases (h.mem u).1 hu with a | b | ⟨m, h1, h2, h3⟩
        · exact .inl a
        · exact .inr (.inl b)
        · exact .inr (.inr ⟨m, h1, by omega, h3⟩)
      · exact .inr (.inr ⟨n, h.n1, by omega, by simpa using hu⟩), fun k => by
      rcases k with a | b | ⟨m, h1, h2, h3⟩
      · exact List.mem_append_left _ ((h.mem u).2 (.inl a))
      · exact List.mem_append_left _ ((h.mem u).2 (.inr (.inl b)))
      · by_cases e : m = n
        · rw [h3, e]; exact List.mem_append_right _ (by simp)
        · exact List.mem_append_left _ ((h.mem u).2 (.inr (.inr ⟨m, h1, by omega, h3⟩)))⟩
  len := by have := h.len; rw [List.length_append]; simp; omega
theorem PfI.next (hV : VR L rs) (h : PfI rs i n S) (hi : i < rs.length) (hn : ¬ n < (rs.getD i ([], [])).1.length) : PfI rs (i + 1) 1 S where
  nd := h.nd
  z := h.z
  il := hi
  n1 := Nat.le_refl _
  nl := fun k => by have := List.length_pos_iff.2 (hV.left k).1; omega
  mem := fun u => ⟨fun hu => by
      rcases (h.mem u).1 hu with a | ⟨j, m, h0, h1, h2, h3⟩ | ⟨m, h1, h2, h3⟩
      · exact .inl a
      · exact .inr (.inl ⟨j, m, by omega, h1, h2, h3⟩)
      · exact .inr (.inl ⟨i, m, by omega, h1, by have := h.nl hi; omega, h3⟩), fun k => by
      rcases k with a | ⟨j, m, h0, h1, h2, h3⟩ | ⟨m, h1, h2, h3⟩
      · exact (h.mem u).2 (.inl a)
      · by_cases e : j = i
        · subst e; exact (h.mem u).2 (.inr (.inr ⟨m, h1, by omega, h3⟩))
        · exact (h.mem u).2 (.inr (.inl ⟨j, m, by omega, h1, h2, h3⟩))
      · omega⟩
  len := by
    have h1 := h.len
    have h2 := h.nl hi
    have : tot (lfs rs) (i + 1) = tot (lfs rs) i + (rs.getD i ([], [])).1.length := by show tot (lfs rs) i + _ = _; rw [lfs_get rs hi]
    omega
theorem PfI.done (h : PfI rs i 1 S) (hi : ¬ i < rs.length) : Pfx rs S where
  nd := h.nd
  z := h.z
  mem := fun u => by
    have hil := h.il
    rw [h.mem u]
    constructor
    · rintro (a | ⟨j, m, h0, h1, h2, h3⟩ | ⟨m, h1, h2, _⟩)
      · exact .inl a
      · exact .inr ⟨j, m, by omega, h1, h2, h3⟩
      · omega
    · rintro (a | ⟨j, m, h0, h1, h2, h3⟩)
      · exact .inl a
      · exact .inr (.inl ⟨j, m, by omega, h1, h2, h3⟩)
theorem Pfx.al (hV : VR L rs) (h : Pfx rs S) {s : Wrd} (hs : s ∈ S) {x : Nat} (hx : x < 6) : Al (s ++ [ltr x]) ∧ Al s := by
  have hsl : (∀ c ∈ s, 97 ≤ c.toNat ∧ c.toNat < 103) ∧ s.length ≤ 2047 := by
    rcases (h.mem s).1 hs with rfl | ⟨j, m, h0, h1, h2, rfl⟩
    · exact ⟨fun c hc => by simp at hc, by simp⟩
    · have ha := validW_al (hV.v _ (getD_mem (d := ([], [])) h0)).1
      exact ⟨fun c hc => ha.mem c (List.mem_of_mem_take hc), by rw [List.length_take]; have := ha.1; omega⟩
  refine ⟨Al.mk' (by simp; omega) (Al.app hsl.1 fun c hc => ?_), Al.mk' (by omega) hsl.1⟩
  simp at hc
  rw [hc, ltr_toNat (by omega)]; omega
/-! ### the longest end that is a state -/
def LsI (S : List Wrd) (w : Wrd) (i : Nat) (z : Int) : Prop := (z = (S.length : Int) ∧ i ≤ w.length ∧ lsuf S (w.drop i) = lsuf S w) ∨ z = ((posN S (lsuf S w) : Nat) : Int)
theorem LsI.init (S : List Wrd) (w : Wrd) : LsI S w 0 (S.length : Int) := .inl ⟨rfl, Nat.zero_le _, rfl⟩
theorem LsI.left {w : Wrd} {z : Int} (h0 : [] ∈ S) (h : LsI S w i z) (hz : z = (S.length : Int)) : i ≤ w.length ∧ lsuf S (w.drop i) = lsuf S w := by
  rcases h with h | h
  · exact h.2
  · have := posN_lt (lsuf_mem h0 w); omega
theorem LsI.miss {w : Wrd} {z : Int} (h0 : [] ∈ S) (h : LsI S w i z) (hz : z = (S.length : Int)) (hm : w.drop i ∉ S) : LsI S w (i + 1) z := by
  obtain ⟨h1, h2⟩ := h.left h0 hz
  have hl : i < w.length := by
    rcases Nat.lt_or_ge i w.length with k | k
    · exact k
    · rw [List.drop_eq_nil_of_le k] at hm; exact absurd h0 hm
  refine .inl ⟨hz, hl, ?_⟩
  rw [← h2]
  rw [← List.getElem_cons_drop hl] at hm ⊢
  conv => rhs; unfold lsuf
  rw [if_neg hm]
theorem LsI.hit {w : Wrd} {z : Int} (h0 : [] ∈ S) (h : LsI S w i z) (hz : z = (S.length : Int)) (hm : w.drop i ∈ S) : LsI S w (i + 1) ((posN S (w.drop i) : Nat) : Int) := by
  obtain ⟨h1, h2⟩ := h.left h0 hz
  rw [lsuf_self hm] at h2
  exact .inr (by rw [h2])
theorem LsI.out {w : Wrd} {z : Int} (h0 : [] ∈ S) (h : LsI S w i z) (hz : ¬ (i : Int) ≤ w.length ∨ ¬ z = (S.length : Int)) : z = ((posN S (lsuf S w) : Nat) : Int) := by
  rcases h with h | h
  · omega
  · exact h
theorem refD_F {x : Nat} (hx : x < S.length) : (refD L rs S).fin.take (x + 1) = (refD L rs S).fin.take x ++ [(once rs (S.getD x [])).isNone] := by
  rw [take_snocD false _ x (by rw [refD_len]; omega)]
  congr 2
  simp only [refD]
  rw [getD_app_lt (by simpa using hx)]
  simp [List.getD_eq_getElem?_getD, hx]
theorem refD_N {x : Nat} (hx : x < S.length) : (refD L rs S).nx.take (x + 1) = (refD L rs S).nx.take x ++ [refR L rs S (S.getD x [])] := by
  rw [take_snocD [] _ x (by simp [refD]; omega), refD_row hx]
theorem refD_Fe : (refD L rs S).fin = (refD L rs S).fin.take S.length ++ [false] := by
  simp [refD, List.take_append]
theorem refD_Ne : (refD L rs S).nx = (refD L rs S).nx.take S.length ++ [List.replicate L.toNat (S.length : Int)] := by
  simp [refD, List.take_append]
theorem refD_nx : (refD L rs S).nx.length = S.length + 1 := by simp [refD]
end
end Go.Sx
