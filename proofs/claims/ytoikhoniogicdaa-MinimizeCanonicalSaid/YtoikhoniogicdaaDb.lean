import Derived.Test.YtoikhoniogicdaaDa
set_option linter.unusedVariables false
namespace Go.Sx
/-! ### words, runs -/
def okB (L : Int) (c : UInt8) : Bool := decide (97 ≤ c.toNat ∧ (c.toNat : Int) - 97 < L)
def validW (L : Int) (l : List UInt8) : Bool := decide (1 ≤ L ∧ L ≤ 6 ∧ l.length ≤ 2048) && l.all (okB L)
theorem validW_iff {L : Int} {l : List UInt8} : validW L l = true ↔ (1 ≤ L ∧ L ≤ 6 ∧ l.length ≤ 2048) ∧ ∀ k, k < l.length → 97 ≤ (l.getD k 0).toNat ∧ ((l.getD k 0).toNat : Int) - 97 < L := by
  unfold validW
  rw [Bool.and_eq_true, decide_eq_true_eq, List.all_eq_true]
  refine and_congr_right fun _ => ⟨fun h k hk => ?_, fun h c hc => ?_⟩
  · have := h _ (getD_mem (d := 0) hk)
    simpa only [okB, decide_eq_true_eq] using this
  · obtain ⟨k, hk, e⟩ := mem_getD 0 hc
    subst e
    simpa only [okB, decide_eq_true_eq] using h k hk
theorem all_take_succ {α : Type} (p : α → Bool) (d : α) {xs : List α} {k : Nat} (hk : k < xs.length) (h : (xs.take k).all p = true) (h1 : p (xs.getD k d) = true) : (xs.take (k + 1)).all p = true := by
  rw [take_snocD d xs k hk, List.all_append, h, List.all_cons, h1]; rfl
theorem all_at {α : Type} (p : α → Bool) (d : α) {xs : List α} {k : Nat} (hk : k < xs.length) (h1 : p (xs.getD k d) = false) : xs.all p = false := by
  rw [List.all_eq_false]
  exact ⟨_, getD_mem (d := d) hk, by rw [h1]; exact Bool.false_ne_true⟩
def stepI (d : Dfa) (q : Int) (c : UInt8) : Int := (d.nx.getD q.toNat []).getD ((c.toNat : Int) - 97).toNat 0
def runI (d : Dfa) (q : Int) (l : List UInt8) : Int := l.foldl (stepI d) q
theorem runI_snoc (d : Dfa) (q : Int) (l : List UInt8) (k : Nat) (h : k < l.length) : runI d q (l.take (k + 1)) = stepI d (runI d q (l.take k)) (l.getD k 0) := by
  unfold runI; rw [take_snocD 0 l k h, List.foldl_append]; rfl
theorem runI_append (d : Dfa) (q : Int) (u v : List UInt8) : runI d q (u ++ v) = runI d (runI d q u) v := List.foldl_append ..
theorem stepI_bd {d : Dfa} (hv : VD d) {q : Int} (hq : 0 ≤ q ∧ q < d.fin.length) {c : UInt8} (hc : okB d.L c = true) : 0 ≤ stepI d q c ∧ stepI d q c < d.fin.length := by
  simp only [okB, decide_eq_true_eq] at hc
  have h1 := hv.row q.toNat (by omega)
  exact hv.to q.toNat _ (by omega) (by omega)
theorem runI_bd' {d : Dfa} (hv : VD d) : ∀ (l : List UInt8) (q : Int), 0 ≤ q ∧ q < d.fin.length → l.all (okB d.L) = true → 0 ≤ runI d q l ∧ runI d q l < d.fin.length
  | [], q, hq, _ => hq
  | c :: l, q, hq, h => by
    rw [List.all_cons, Bool.and_eq_true] at h
    exact runI_bd' hv l _ (stepI_bd hv hq h.1) h.2
theorem runI_bd {d : Dfa} (hv : VD d) {l : List UInt8} {q : Int} (hq : 0 ≤ q ∧ q < d.fin.length) (h : validW d.L l = true) (k : Nat) : 0 ≤ runI d q (l.take k) ∧ runI d q (l.take k) < d.fin.length := by
  unfold validW at h
  rw [Bool.and_eq_true, List.all_eq_true] at h
  exact runI_bd' hv _ q hq (by rw [List.all_eq_true]; exact fun c hc => h.2 c (List.mem_of_mem_take hc))
theorem runI_bdw {d : Dfa} (hv : VD d) {l : List UInt8} {q : Int} (hq : 0 ≤ q ∧ q < d.fin.length) (h : validW d.L l = true) : 0 ≤ runI d q l ∧ runI d q l < d.fin.length := by
  have := runI_bd hv hq h l.length
  rwa [List.take_length] at this
def RunV (d : Dfa) (q : Int) (l : List UInt8) : Int := if errV d = 0 ∧ (0 ≤ q ∧ q < d.fin.length) ∧ validW d.L l = true then runI d q l else -1
def AccV (d : Dfa) (l : List UInt8) : Bool := if 0 ≤ RunV d d.s l then d.fin.getD (RunV d d.s l).toNat false else false
theorem RunV_bd {d : Dfa} {q : Int} {l : List UInt8} (h : 0 ≤ RunV d q l) : RunV d q l < d.fin.length ∧ RunV d q l = runI d q l ∧ VD d ∧ validW d.L l = true := by
  unfold RunV at h ⊢
  split at h
  · rename_i hc
    have hv := (errV_iff d).1 hc.1
    rw [if_pos hc]
    exact ⟨(runI_bdw hv hc.2.1 hc.2.2).2, rfl, hv, hc.2.2⟩
  · omega
end Go.Sx
