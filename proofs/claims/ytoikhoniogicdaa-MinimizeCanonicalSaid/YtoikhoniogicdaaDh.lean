import Derived.Test.YtoikhoniogicdaaDg
set_option linter.unusedVariables false
namespace Go.Sx
theorem Yl.valE {C : Cx} {st : St} {o : Oper} {v v' : Value} (h : Yl C st o v) (e : v = v') : Yl C st o v' := e ▸ h
section
variable {α : Type} [DecidableEq α]
theorem exRw_pre (f : α → Nat → α) (q : α) (wq : List UInt8) (l : List α) (ws : List (List UInt8)) : ∀ k, ∃ ys, exRw f q wq l ws k = ws ++ ys
  | 0 => ⟨[], by simp [exRw]⟩
  | k + 1 => by
    obtain ⟨ys, h⟩ := exRw_pre f q wq l ws k
    simp only [exRw]; split
    · exact ⟨ys, h⟩
    · exact ⟨ys ++ [wq ++ [ltr k]], by rw [h, List.append_assoc]⟩
theorem exRw_get {f : α → Nat → α} {q : α} {wq : List UInt8} {l : List α} {ws : List (List UInt8)} {i : Nat} (k : Nat) (h : i < ws.length) : (exRw f q wq l ws k).getD i [] = ws.getD i [] := by
  obtain ⟨ys, e⟩ := exRw_pre f q wq l ws k
  rw [e, getD_app [] h]
/-- how long the words are -/
theorem exRw_wd {f : α → Nat → α} {q : α} {wq : List UInt8} {l : List α} {ws : List (List UInt8)} {n : Nat} (h1 : ∀ w ∈ ws, w.length ≤ n) (h2 : wq.length + 1 ≤ n) : ∀ k, ∀ w ∈ exRw f q wq l ws k, w.length ≤ n
  | 0, w, hw => h1 w hw
  | k + 1, w, hw => by
    simp only [exRw] at hw
    split at hw
    · exact exRw_wd h1 h2 k w hw
    · rw [List.mem_append] at hw
      rcases hw with hw | hw
      · exact exRw_wd h1 h2 k w hw
      · simp at hw; subst hw; simp; omega
theorem exIw_wd' {f : α → Nat → α} {L : Nat} {s z : α} : ∀ i, ∀ w ∈ exIw f L s z i, w.length ≤ i
  | 0, w, hw => by simp [exIw] at hw; subst hw; simp
  | i + 1, w, hw => by
    simp only [exIw] at hw
    split at hw
    · rename_i hi
      refine exRw_wd (fun u hu => Nat.le_succ_of_le (exIw_wd' i u hu)) ?_ L w hw
      have := exIw_wd' i _ (getD_mem (d := []) (show i < (exIw f L s z i).length by rw [exIw_len]; exact hi))
      omega
    · exact Nat.le_succ_of_le (exIw_wd' i w hw)
theorem exIw_wd {f : α → Nat → α} {L : Nat} {s z : α} (i j : Nat) (h : j < (exIw f L s z i).length) : ((exIw f L s z i).getD j []).length ≤ 2 * (i + 1) * 8 := by
  have := exIw_wd' i _ (getD_mem (d := []) h); omega
end
end Go.Sx
