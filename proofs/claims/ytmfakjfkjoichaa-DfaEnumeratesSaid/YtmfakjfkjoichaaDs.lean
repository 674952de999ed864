import Derived.Test.YtmfakjfkjoichaaDr
set_option linter.unusedVariables false
namespace Go.Sx
/-! ### how many words of one length the list holds -/
def ofL (l : Nat) (w : List UInt8) : Bool := decide (w.length = l)
theorem sumR_one (c : Int) (l : Nat) : ∀ k, sumR (fun r => if r = l then c else 0) k = if l < k then c else 0
  | 0 => by simp [sumR]
  | k + 1 => by
    simp only [sumR]; rw [sumR_one c l k]
    by_cases h1 : l < k
    · rw [if_pos h1, if_neg (by omega), if_pos (by omega)]; omega
    · rw [if_neg h1]
      by_cases h2 : k = l
      · rw [if_pos h2, if_pos (by omega)]; omega
      · rw [if_neg h2, if_neg (by omega)]; omega
theorem accF_count {d : Dfa} (hv : VD d) {l : Nat} (hl : l ≤ 15) : (((accF d 2049).countP (ofL l) : Nat) : Int) = CountV d l := by
  have hL := hv.L
  unfold accF
  rw [countP_flat, sum_range]
  have e : sumR (fun r => (((accR d r d.s).countP (ofL l) : Nat) : Int)) 2049 = sumR (fun r => if r = l then (((accR d l d.s).length : Nat) : Int) else 0) 2049 := by
    refine sumR_congr _ fun r _ => ?_
    by_cases h : r = l
    · subst h
      rw [if_pos rfl, List.countP_eq_length.2]
      intro w hw
      exact decide_eq_true (accR_mem hv hw).1
    · rw [if_neg h, List.countP_eq_zero.2]
      · rfl
      · intro w hw
        have := (accR_mem hv hw).1
        simp only [ofL, decide_eq_true_eq]; omega
  rw [e, sumR_one, if_pos (by omega)]
  rw [CountV_words hv hl]
  unfold accR
  rw [← List.countP_eq_length_filter]
  refine congrArg (fun (k : Nat) => (k : Int)) ?_
  refine List.countP_congr fun w hw => ?_
  have h := allW_ok (by omega) l w hw
  have eL : ((d.L.toNat : Nat) : Int) = d.L := by omega
  rw [eL] at h
  rw [AccV_of hv (by unfold validW; rw [h.2, Bool.and_true, decide_eq_true_eq]; omega)]
  rfl
theorem en_count {d : Dfa} (hv : VD d) {n : Nat} (hn : n ≤ 200) {l : Nat} (hl : l ≤ 15) (h : (WordsV d n).length < n ∨ l < ((WordsV d n).getD ((WordsV d n).length - 1) []).length) : (((WordsV d n).countP (ofL l) : Nat) : Int) = CountV d l := by
  rw [← accF_count hv hl]
  have hs := accF_srt hv 2049
  rw [words_eq hv hn] at *
  generalize accF d 2049 = F at *
  conv => rhs; rw [← List.take_append_drop n F, List.countP_append]
  have hz : (F.drop n).countP (ofL l) = 0 := by
    rw [List.countP_eq_zero]
    intro u hu
    have hp : 0 < (F.drop n).length := List.length_pos_of_mem hu
    simp only [List.length_drop] at hp
    have ht : (F.take n).length = n := by simp; omega
    rcases h with h | h
    · omega
    · rw [← List.take_append_drop n F] at hs
      have hne : 0 < (F.take n).length := by
        rcases Nat.eq_zero_or_pos (F.take n).length with h0 | h0
        · have : F.take n = [] := List.length_eq_zero_iff.1 h0
          rw [this] at h; simp at h
        · exact h0
      have h1 := (List.pairwise_append.1 hs).2.2 _ (getD_mem (d := []) (xs := F.take n) (k := (F.take n).length - 1) (by omega)) u hu
      rw [slx_iff] at h1
      simp only [ofL, decide_eq_true_eq]; omega
  rw [hz]; rfl
/-- the counts of the words so far -/
def cntL (ws : List (List UInt8)) (k : Nat) : List Int := (List.range 9).map fun l => (((ws.take k).countP (ofL l) : Nat) : Int)
theorem cntL_len (ws : List (List UInt8)) (k : Nat) : (cntL ws k).length = 9 := by simp [cntL]
theorem cntL_zero (ws : List (List UInt8)) : cntL ws 0 = List.replicate 9 0 := by simp [cntL]; rfl
theorem cntL_get (ws : List (List UInt8)) (k : Nat) {l : Nat} (hl : l < 9) : (cntL ws k).getD l 0 = (((ws.take k).countP (ofL l) : Nat) : Int) := by
  simp [cntL, List.getD_eq_getElem?_getD, hl]
theorem cntL_step {ws : List (List UInt8)} {k : Nat} (hk : k < ws.length) : cntL ws (k + 1) = (cntL ws k).set (ws.getD k []).length ((cntL ws k).getD (ws.getD k []).length 0 + 1) := by
  apply List.ext_getElem?
  intro i
  have e : ∀ k, (cntL ws k)[i]? = if i < 9 then some (((ws.take k).countP (ofL i) : Nat) : Int) else none := fun k => by
    by_cases hi : i < 9
    · simp [cntL, hi]
    · rw [if_neg hi, List.getElem?_eq_none (by rw [cntL_len]; omega)]
  rw [e (k + 1), List.getElem?_set, cntL_len, e k]
  by_cases hi : i < 9
  · rw [if_pos hi, if_pos hi, take_snocD [] ws k hk, List.countP_append, List.countP_singleton]
    by_cases h : (ws.getD k []).length = i
    · rw [if_pos h, h, if_pos hi, cntL_get ws k hi, show ofL i (ws.getD k []) = true from decide_eq_true h]; simp
    · rw [if_neg h, show ofL i (ws.getD k []) = false from decide_eq_false h]; simp
  · rw [if_neg hi, if_neg hi]
    split
    · rw [if_neg (by omega)]
    · rfl
end Go.Sx
