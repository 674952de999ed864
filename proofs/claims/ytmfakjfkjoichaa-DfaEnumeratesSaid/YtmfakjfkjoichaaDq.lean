import Derived.Test.YtmfakjfkjoichaaDp
set_option linter.unusedVariables false
namespace Go.Sx
/-! ### the list of words is the beginning of all accepted words, by length and then by letters -/
def accR (d : Dfa) (r : Nat) (q : Int) : List (List UInt8) := (allW d.L.toNat r).filter fun l => finQ d (runI d q l)
theorem accR_nil {d : Dfa} (hv : VD d) {r : Nat} {q : Int} (hq : InR d q) (h : (aliveR d r).getD q.toNat false = false) : accR d r q = [] := by
  have hL := hv.L
  unfold accR
  rw [List.filter_eq_nil_iff]
  intro l hl hf
  have h1 := allW_ok (by omega) r l hl
  have e : ((d.L.toNat : Nat) : Int) = d.L := by omega
  rw [e] at h1
  have := (alive_iff hv r q hq).2 ⟨l, h1.1, h1.2, hf⟩
  rw [h] at this; cases this
theorem filter_flat {α β : Type} (p : β → Bool) (f : α → List β) : ∀ l : List α, (l.flatMap f).filter p = l.flatMap fun a => (f a).filter p
  | [] => rfl
  | a :: l => by simp only [List.flatMap_cons, List.filter_append, filter_flat p f l]
theorem flat_congr {α β : Type} {f g : α → List β} : ∀ {l : List α}, (∀ a ∈ l, f a = g a) → l.flatMap f = l.flatMap g
  | [], _ => rfl
  | a :: l, h => by rw [List.flatMap_cons, List.flatMap_cons, h a (by simp), flat_congr fun b hb => h b (by simp [hb])]
theorem accR_succ {d : Dfa} (hv : VD d) (r : Nat) (q : Int) : accR d (r + 1) q = (List.range d.L.toNat).flatMap fun x => (accR d r (stepQ d q x)).map (ltr x :: ·) := by
  have hL := hv.L
  unfold accR
  rw [show allW d.L.toNat (r + 1) = ((List.range d.L.toNat).map fun x => UInt8.ofNat (97 + x)).flatMap (fun c => (allW d.L.toNat r).map (c :: ·)) from rfl]
  rw [filter_flat, List.flatMap_map]
  refine flat_congr fun x hx => ?_
  have hx' : x < d.L.toNat := by simpa using hx
  rw [List.filter_map]
  refine congrArg _ (List.filter_congr fun l _ => ?_)
  show finQ d (runI d (stepI d q (ltr x)) l) = _
  rw [stepI_ltr (by omega)]
theorem take_app_take {α : Type} (n : Nat) (a b : List α) : (a.take n ++ b).take n = (a ++ b).take n := by
  rw [List.take_append, List.take_append, List.take_take, Nat.min_self]
  by_cases h : n ≤ a.length
  · rw [List.length_take, Nat.min_eq_left h, Nat.sub_self, show n - a.length = 0 by omega]
  · rw [List.take_of_length_le (by omega)]
theorem fold_take {α : Type} (n : Nat) (g : List α → Nat → List α) (F : Nat → List α) (hg : ∀ out x, out.length ≤ n → g out x = (out ++ F x).take n) : ∀ (xs : List Nat) (out : List α), out.length ≤ n → xs.foldl g out = (out ++ xs.flatMap F).take n
  | [], out, h => by simp [List.take_of_length_le h]
  | x :: xs, out, h => by
    rw [List.foldl_cons, fold_take n g F hg xs _ (by rw [hg out x h]; simp; omega), hg out x h, take_app_take, List.flatMap_cons, List.append_assoc]
theorem wl_take {d : Dfa} (hv : VD d) (n : Nat) : ∀ (r : Nat) (q : Int) (pre : List UInt8) (out : List (List UInt8)), InR d q → out.length ≤ n → wl d n r q pre out = (out ++ (accR d r q).map (pre ++ ·)).take n
  | 0, q, pre, out, hq, h => by
    by_cases hs : (aliveR d 0).getD q.toNat false = false ∨ out.length = n
    · rw [wl_stop hs]
      rcases hs with hs | hs
      · rw [accR_nil hv hq hs]; simp [List.take_of_length_le h]
      · rw [List.take_append, ← hs]; simp
    · rw [wl_zero hs]
      simp only [not_or] at hs
      have e : accR d 0 q = [[]] := by
        have : finQ d (runI d q []) = true := by simpa [aliveR, finQ, runI] using hs.1
        simp [accR, allW, this]
      rw [e, List.take_of_length_le (by simp; omega)]; simp
  | r + 1, q, pre, out, hq, h => by
    by_cases hs : (aliveR d (r + 1)).getD q.toNat false = false ∨ out.length = n
    · rw [wl_stop hs]
      rcases hs with hs | hs
      · rw [accR_nil hv hq hs]; simp [List.take_of_length_le h]
      · rw [List.take_append, ← hs]; simp
    · have hL := hv.L
      have hr := hv.row q.toNat (by have := hq.1; have := hq.2; omega)
      rw [wl_succ (by omega) hs, accR_succ hv]
      unfold wlk
      rw [show (d.nx.getD q.toNat []).length = d.L.toNat by omega, List.map_flatMap]
      have key : ∀ (xs : List Nat), (∀ x ∈ xs, x < d.L.toNat) → ∀ out : List (List UInt8), out.length ≤ n → xs.foldl (fun out x => wl d n (r + 1 - 1) ((d.nx.getD q.toNat []).getD x 0) (pre ++ [ltr x]) out) out = (out ++ xs.flatMap fun x => ((accR d r (stepQ d q x)).map (ltr x :: ·)).map (pre ++ ·)).take n := by
        intro xs
        induction xs with
        | nil => intro _ out h; simp [List.take_of_length_le h]
        | cons x xs ih =>
          intro hx out h
          have ht := hv.to q.toNat x (by have := hq.1; have := hq.2; omega) (by have := hx x (by simp); omega)
          have e := wl_take hv n r _ (pre ++ [ltr x]) out ht h
          rw [List.foldl_cons, ih (fun y hy => hx y (by simp [hy])) _ (by rw [show r + 1 - 1 = r from rfl, e]; simp; omega), show r + 1 - 1 = r from rfl, e, take_app_take, List.flatMap_cons, List.append_assoc]
          congr 3
          rw [List.map_map]
          refine List.map_congr_left fun l _ => ?_
          simp
      exact key _ (fun x hx => by simpa using hx) out h
/-- all accepted words of less than k letters -/
def accF (d : Dfa) (k : Nat) : List (List UInt8) := (List.range k).flatMap fun r => accR d r d.s
theorem wk_take {d : Dfa} (hv : VD d) (n : Nat) : ∀ k, wk d n k = (accF d k).take n
  | 0 => by simp [wk, accF]
  | k + 1 => by
    have ih := wk_take hv n k
    have e : accF d (k + 1) = accF d k ++ accR d k d.s := by unfold accF; rw [List.range_succ, List.flatMap_append]; simp
    simp only [wk]
    split
    · rename_i h
      rw [wl_take hv n k d.s [] _ hv.s (by omega), ih, take_app_take, e]; simp
    · rename_i h
      rw [ih] at h ⊢
      have : n ≤ (accF d k).length := by simp at h; omega
      rw [e, List.take_append, show n - (accF d k).length = 0 by omega]; simp
end Go.Sx
