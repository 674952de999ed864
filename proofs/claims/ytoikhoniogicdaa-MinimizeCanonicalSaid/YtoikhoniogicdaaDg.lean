import Derived.Test.YtoikhoniogicdaaDf
set_option linter.unusedVariables false
namespace Go.Sx
/-! ### 7.3: the reachable part -/
section
variable {α : Type} [DecidableEq α]
theorem exI_mono (f : α → Nat → α) (L : Nat) (s z : α) (i : Nat) : ∀ m, ∃ ys, exI f L s z (i + m) = exI f L s z i ++ ys
  | 0 => ⟨[], by simp⟩
  | m + 1 => by
    obtain ⟨ys, h⟩ := exI_mono f L s z i m
    obtain ⟨zs, h2⟩ := exI_pre f L s z (i + m)
    exact ⟨ys ++ zs, by rw [← Nat.add_assoc, h2, h, List.append_assoc]⟩
theorem exI_stop {f : α → Nat → α} {L : Nat} {s z : α} {n : Nat} (h : (exI f L s z n).length ≤ n) : ∀ m, exI f L s z (n + m) = exI f L s z n
  | 0 => rfl
  | m + 1 => by
    have := exI_stop h m
    show exI f L s z (n + m + 1) = _
    simp only [exI]; rw [this, if_neg (by omega)]
theorem exI_final {f : α → Nat → α} {L : Nat} {s z : α} {U : List α} (hs : s ∈ U) (hf : ∀ q ∈ U, ∀ x, x < L → f q x ∈ U) {n : Nat} (h : n = (exI f L s z n).length) : exI f L s z U.length = exI f L s z n ∧ n ≤ U.length := by
  have hb := exI_bd (z := z) hs hf n
  have := exI_stop (f := f) (L := L) (s := s) (z := z) (n := n) (by omega) (U.length - n)
  rw [show n + (U.length - n) = U.length by omega] at this
  exact ⟨this, by omega⟩
/-- there is such a number -/
theorem exI_grow {f : α → Nat → α} {L : Nat} {s z : α} : ∀ i, (∀ j, j < i → j < (exI f L s z j).length) → i ≤ (exI f L s z i).length
  | 0, _ => Nat.zero_le _
  | i + 1, h => by
    have h1 := h i (by omega)
    have := exI_grow i (fun j hj => h j (by omega))
    rcases Nat.lt_or_ge i ((exI f L s z (i + 1)).length) with h2 | h2
    · exact h2
    · obtain ⟨ys, e⟩ := exI_pre f L s z i
      rw [e, List.length_append] at h2; omega
theorem pos_in {xs XS ys : List α} {x : α} (h : XS = insN xs x ++ ys) : posN XS x = posN xs x := by
  rw [h, posN_append _ (insN_mem xs x)]
  unfold insN
  split
  · rfl
  · rename_i hx
    rw [posN_not hx]
    have : ∀ l : List α, x ∉ l → posN (l ++ [x]) x = l.length := by
      intro l hl
      induction l with
      | nil => simp [posN]
      | cons b l ih =>
        simp only [List.mem_cons, not_or] at hl
        simp only [List.cons_append, posN, if_neg hl.1, ih hl.2, List.length_cons]
    exact this xs hx
theorem exW_pos {f : α → Nat → α} {q : α} {l XS : List α} : ∀ k, (∃ ys, XS = exR f q l k ++ ys) → exW f q l k = (List.range k).map fun x => ((posN XS (f q x) : Nat) : Int)
  | 0, _ => rfl
  | k + 1, ⟨ys, h⟩ => by
    obtain ⟨zs, h2⟩ := insN_pre (exR f q l k) (f q k)
    have h3 : XS = exR f q l k ++ (zs ++ ys) := by rw [h, exR, h2, List.append_assoc]
    rw [exW, exW_pos k ⟨_, h3⟩, List.range_succ, List.map_append]
    simp only [List.map_cons, List.map_nil]
    have e := pos_in (XS := XS) (xs := exR f q l k) (x := f q k) (ys := ys) h
    rw [← e]
omit [DecidableEq α] in
theorem getD_app {xs ys : List α} {i : Nat} (z : α) (h : i < xs.length) : (xs ++ ys).getD i z = xs.getD i z := by
  rw [List.getD_eq_getElem?_getD, List.getD_eq_getElem?_getD, List.getElem?_append_left h]
theorem exN_pos {f : α → Nat → α} {L : Nat} {s z : α} {n : Nat} (hlt : ∀ j, j < n → j < (exI f L s z j).length) : ∀ i, i ≤ n → exN f L s z i = (List.range i).map fun p => (List.range L).map fun x => ((posN (exI f L s z n) (f ((exI f L s z n).getD p z) x) : Nat) : Int)
  | 0, _ => rfl
  | i + 1, hi => by
    rw [exN, exN_pos hlt i (by omega), List.range_succ, List.map_append]
    simp only [List.map_cons, List.map_nil]
    congr 2
    have h1 := hlt i (by omega)
    obtain ⟨ys, h2⟩ := exI_mono f L s z i (n - i)
    rw [show i + (n - i) = n by omega] at h2
    have hq : (exI f L s z n).getD i z = (exI f L s z i).getD i z := by rw [h2, getD_app z h1]
    rw [hq]
    refine exW_pos L ?_
    obtain ⟨zs, h3⟩ := exI_mono f L s z (i + 1) (n - (i + 1))
    rw [show i + 1 + (n - (i + 1)) = n by omega, exI_next h1] at h3
    exact ⟨zs, h3⟩
theorem exG_pos {f : α → Nat → α} {L : Nat} {s z : α} {g : α → Bool} {n : Nat} (hlt : ∀ j, j < n → j < (exI f L s z j).length) : ∀ i, i ≤ n → exG f L s z g i = (List.range i).map fun p => g ((exI f L s z n).getD p z)
  | 0, _ => rfl
  | i + 1, hi => by
    rw [exG, exG_pos hlt i (by omega), List.range_succ, List.map_append]
    simp only [List.map_cons, List.map_nil]
    have h1 := hlt i (by omega)
    obtain ⟨ys, h2⟩ := exI_mono f L s z i (n - i)
    rw [show i + (n - i) = n by omega] at h2
    rw [h2, getD_app z h1]
theorem exI_all {f : α → Nat → α} {L : Nat} {s z : α} {n : Nat} (h : n = (exI f L s z n).length) : ∀ j, j < n → j < (exI f L s z j).length := by
  intro j hj
  rcases Nat.lt_or_ge j ((exI f L s z j).length) with h1 | h1
  · exact h1
  · have := exI_stop h1 (n - j)
    rw [show j + (n - j) = n by omega] at this
    rw [this] at h; omega
/-- words of the states -/
def exRw (f : α → Nat → α) (q : α) (wq : List UInt8) (l : List α) (ws : List (List UInt8)) : Nat → List (List UInt8)
  | 0 => ws
  | k + 1 => if f q k ∈ exR f q l k then exRw f q wq l ws k else exRw f q wq l ws k ++ [wq ++ [ltr k]]
def exIw (f : α → Nat → α) (L : Nat) (s z : α) : Nat → List (List UInt8)
  | 0 => [[]]
  | i + 1 => if i < (exI f L s z i).length then exRw f ((exI f L s z i).getD i z) ((exIw f L s z i).getD i []) (exI f L s z i) (exIw f L s z i) L else exIw f L s z i
theorem exRw_len {f : α → Nat → α} {q : α} {wq : List UInt8} {l : List α} {ws : List (List UInt8)} (h : ws.length = l.length) : ∀ k, (exRw f q wq l ws k).length = (exR f q l k).length
  | 0 => h
  | k + 1 => by
    simp only [exRw, exR, insN]
    split
    · exact exRw_len h k
    · simp [exRw_len h k]
theorem exIw_len {f : α → Nat → α} {L : Nat} {s z : α} : ∀ i, (exIw f L s z i).length = (exI f L s z i).length
  | 0 => rfl
  | i + 1 => by
    simp only [exIw, exI]
    split
    · exact exRw_len (exIw_len i) L
    · exact exIw_len i
theorem exIw_next {f : α → Nat → α} {L : Nat} {s z : α} {i : Nat} (h : i < (exI f L s z i).length) : exIw f L s z (i + 1) = exRw f ((exI f L s z i).getD i z) ((exIw f L s z i).getD i []) (exI f L s z i) (exIw f L s z i) L := by
  simp only [exIw]; rw [if_pos h]
theorem exIw_stop {f : α → Nat → α} {L : Nat} {s z : α} {n : Nat} (h : (exI f L s z n).length ≤ n) : ∀ m, exIw f L s z (n + m) = exIw f L s z n
  | 0 => rfl
  | m + 1 => by
    have := exIw_stop h m
    have h2 := exI_stop h m
    show exIw f L s z (n + m + 1) = _
    simp only [exIw]; rw [this, h2, if_neg (by omega)]
theorem exIw_final {f : α → Nat → α} {L : Nat} {s z : α} {U : List α} (hs : s ∈ U) (hf : ∀ q ∈ U, ∀ x, x < L → f q x ∈ U) {n : Nat} (h : n = (exI f L s z n).length) : exIw f L s z U.length = exIw f L s z n := by
  have hb := (exI_final hs hf h).2
  have := exIw_stop (f := f) (L := L) (s := s) (z := z) (n := n) (by omega) (U.length - n)
  rwa [show n + (U.length - n) = U.length by omega] at this
end

/-! ### of an automaton -/
def stepQ (d : Dfa) (q : Int) (x : Nat) : Int := (d.nx.getD q.toNat []).getD x 0
def finQ (d : Dfa) (q : Int) : Bool := d.fin.getD q.toNat false
def univ (n : Nat) : List Int := (List.range n).map fun (i : Nat) => (i : Int)
theorem mem_univ {n : Nat} {q : Int} : q ∈ univ n ↔ 0 ≤ q ∧ q < n := by
  unfold univ; rw [List.mem_map]
  constructor
  · rintro ⟨i, hi, rfl⟩; rw [List.mem_range] at hi; omega
  · intro h; exact ⟨q.toNat, by rw [List.mem_range]; omega, by omega⟩
theorem univ_len (n : Nat) : (univ n).length = n := by simp [univ]
theorem step_univ {d : Dfa} (hv : VD d) : ∀ q ∈ univ d.fin.length, ∀ x, x < d.L.toNat → stepQ d q x ∈ univ d.fin.length := by
  intro q hq x hx
  rw [mem_univ] at hq ⊢
  have h1 := hv.row q.toNat (by omega)
  exact hv.to q.toNat x (by omega) (by omega)
theorem start_univ {d : Dfa} (hv : VD d) : d.s ∈ univ d.fin.length := mem_univ.2 hv.s
/-- the reachable states, and their words -/
def TSt (d : Dfa) : List Int := exI (stepQ d) d.L.toNat d.s 0 d.fin.length
def TWo (d : Dfa) : List (List UInt8) := exIw (stepQ d) d.L.toNat d.s 0 d.fin.length
def trimD (d : Dfa) : Dfa := ⟨d.L, 0, (TSt d).map (finQ d), (TSt d).map fun q => (List.range d.L.toNat).map fun x => ((posN (TSt d) (stepQ d q x) : Nat) : Int)⟩
theorem map_range_getD {α β : Type} (z : α) (f : α → β) (xs : List α) : (List.range xs.length).map (fun p => f (xs.getD p z)) = xs.map f := by
  apply List.ext_getElem
  · simp
  · intro i h1 h2
    simp at h1
    simp [List.getD_eq_getElem?_getD, h1]
theorem trim_is {d : Dfa} (hv : VD d) {n : Nat} (h : n = (exI (stepQ d) d.L.toNat d.s 0 n).length) :
    exI (stepQ d) d.L.toNat d.s 0 n = TSt d ∧ (⟨d.L, 0, exG (stepQ d) d.L.toNat d.s 0 (finQ d) n, exN (stepQ d) d.L.toNat d.s 0 n⟩ : Dfa) = trimD d := by
  have h1 := (exI_final (start_univ hv) (step_univ hv) h).1
  rw [univ_len] at h1
  have h2 : exI (stepQ d) d.L.toNat d.s 0 n = TSt d := h1.symm
  refine ⟨h2, ?_⟩
  have h3 := exI_all h
  have hn : n = (TSt d).length := by rw [← h2]; exact h
  rw [exG_pos h3 n (Nat.le_refl n), exN_pos h3 n (Nat.le_refl n), h2]
  unfold trimD
  conv => lhs; rw [hn]
  rw [map_range_getD 0 (finQ d), map_range_getD 0 (fun q => (List.range d.L.toNat).map fun x => ((posN (TSt d) (stepQ d q x) : Nat) : Int))]
theorem TSt_ok {d : Dfa} (hv : VD d) : (TSt d).Nodup ∧ (∀ q ∈ TSt d, 0 ≤ q ∧ q < d.fin.length) ∧ (TSt d).length ≤ d.fin.length ∧ 0 < (TSt d).length := by
  have h := exI_ok (z := 0) (start_univ hv) (step_univ hv) d.fin.length
  have hb := exI_bd (z := 0) (start_univ hv) (step_univ hv) d.fin.length
  rw [univ_len] at hb
  exact ⟨h.1, fun q hq => mem_univ.1 (h.2 q hq), hb, exI_ne _ _ _ _ _⟩
/-- the numbers of the states -/
def numK (n : Nat) (xs : List Int) (k : Nat) : List Int := (List.range k).foldl (fun l i => l.set (xs.getD i 0).toNat (i : Int)) (List.replicate n (-1))
theorem numK_succ {n : Nat} {xs : List Int} {k : Nat} : numK n xs (k + 1) = (numK n xs k).set (xs.getD k 0).toNat (k : Int) := by
  unfold numK; rw [List.range_succ, List.foldl_append]; rfl
theorem numK_len (n : Nat) (xs : List Int) : ∀ k, (numK n xs k).length = n
  | 0 => by simp [numK]
  | k + 1 => by rw [numK_succ, List.length_set, numK_len n xs k]
theorem numK_get {n : Nat} {xs : List Int} (hn : xs.Nodup) (hb : ∀ q ∈ xs, 0 ≤ q ∧ q < n) : ∀ k, k ≤ xs.length → ∀ q : Int, 0 ≤ q ∧ q < n → (numK n xs k).getD q.toNat 0 = if posN xs q < k then ((posN xs q : Nat) : Int) else -1
  | 0, _, q, hq => by
    have : q.toNat < n := by omega
    simp [numK, List.getD_eq_getElem?_getD, this]
  | k + 1, hk, q, hq => by
    rw [numK_succ, List.getD_eq_getElem?_getD, List.getElem?_set, numK_len]
    have hxk := hb _ (getD_mem (d := 0) (show k < xs.length by omega))
    have hp := posN_at 0 hn (show k < xs.length by omega)
    have ih := numK_get hn hb k (by omega) q hq
    rw [List.getD_eq_getElem?_getD] at ih
    by_cases he : (xs.getD k 0).toNat = q.toNat
    · have e2 : xs.getD k 0 = q := by omega
      rw [if_pos he, if_pos (by omega)]
      rw [← e2, hp, if_pos (by omega)]; rfl
    · rw [if_neg he, ih]
      have hne : posN xs q ≠ k := fun e => he (by
        have hm : q ∈ xs := by
          apply Classical.byContradiction
          intro h'
          have := posN_not h'; omega
        have := getD_posN 0 hm
        rw [e] at this; rw [this])
      by_cases h1 : posN xs q < k
      · rw [if_pos h1, if_pos (by omega)]
      · rw [if_neg h1, if_neg (by omega)]
def numT (d : Dfa) : List Int := numK d.fin.length (TSt d) (TSt d).length
theorem numT_mem {d : Dfa} (hv : VD d) {q : Int} (hq : q ∈ TSt d) : (numT d).getD q.toNat 0 = ((posN (TSt d) q : Nat) : Int) := by
  obtain ⟨h1, h2, h3, _⟩ := TSt_ok hv
  unfold numT
  rw [numK_get h1 h2 _ (Nat.le_refl _) q (h2 q hq), if_pos (posN_lt hq)]
theorem TSt_closed {d : Dfa} (hv : VD d) {q : Int} (hq : q ∈ TSt d) {x : Nat} (hx : x < d.L.toNat) : stepQ d q x ∈ TSt d := by
  have hs := start_univ hv
  have hf := step_univ hv
  -- the round in which q is looked at
  obtain ⟨i, hi, e⟩ := mem_getD 0 hq
  have hlen := (TSt_ok hv).2.2.1
  have key : ∀ n, n = (exI (stepQ d) d.L.toNat d.s 0 n).length → stepQ d q x ∈ TSt d := by
    intro n hn
    have h2 := (trim_is hv hn).1
    have h3 := exI_all hn
    have hin : i < n := by rw [hn, h2]; exact hi
    have h1 := h3 i hin
    obtain ⟨ys, h4⟩ := exI_mono (stepQ d) d.L.toNat d.s 0 i (n - i)
    rw [show i + (n - i) = n by omega] at h4
    have hq' : (exI (stepQ d) d.L.toNat d.s 0 i).getD i 0 = q := by rw [← getD_app 0 h1 (ys := ys), ← h4, h2]; exact e
    obtain ⟨zs, h5⟩ := exI_mono (stepQ d) d.L.toNat d.s 0 (i + 1) (n - (i + 1))
    rw [show i + 1 + (n - (i + 1)) = n by omega, exI_next h1, hq'] at h5
    rw [← h2, h5]
    apply List.mem_append_left
    have : ∀ k, x < k → stepQ d q x ∈ exR (stepQ d) q (exI (stepQ d) d.L.toNat d.s 0 i) k := by
      intro k
      induction k with
      | zero => intro h; omega
      | succ k ih =>
        intro h
        by_cases hxk : x = k
        · subst hxk; exact insN_mem _ _
        · exact insN_sub (ih (by omega))
    exact this _ hx
  -- such a number exists
  have ex : ∃ n, n = (exI (stepQ d) d.L.toNat d.s 0 n).length := by
    apply Classical.byContradiction
    intro hno
    have hall : ∀ i, i ≤ (exI (stepQ d) d.L.toNat d.s 0 i).length := by
      intro i
      induction i with
      | zero => exact Nat.zero_le _
      | succ i ih =>
        have : i < (exI (stepQ d) d.L.toNat d.s 0 i).length := Nat.lt_of_le_of_ne ih (fun e => hno ⟨i, e⟩)
        obtain ⟨ys, e⟩ := exI_pre (stepQ d) d.L.toNat d.s 0 i
        rw [e, List.length_append]; omega
    have h1 := hall ((univ d.fin.length).length + 1)
    have h2 := exI_bd (z := 0) hs hf ((univ d.fin.length).length + 1)
    omega
  obtain ⟨n, hn⟩ := ex
  exact key n hn
/-- what the document's Trim builds -/
def trimR (d : Dfa) : Dfa := ⟨d.L, 0, (TSt d).map (finQ d), (TSt d).map fun q => (d.nx.getD q.toNat []).map fun s => (numT d).getD s.toNat 0⟩
theorem trimR_eq {d : Dfa} (hv : VD d) : trimR d = trimD d := by
  unfold trimR trimD
  congr 1
  apply List.map_congr_left
  intro q hq
  have hb := (TSt_ok hv).2.1 q hq
  have hr := hv.row q.toNat (by omega)
  have e : d.L.toNat = (d.nx.getD q.toNat []).length := by omega
  rw [e, ← map_range_getD 0 (fun s : Int => (numT d).getD s.toNat 0)]
  apply List.map_congr_left
  intro x hx
  rw [List.mem_range] at hx
  exact numT_mem hv (TSt_closed hv hq (by omega))
end Go.Sx
namespace Go.Sx
def BxA (w : World) (b : Nat) (cs : List Value) : Prop := ∃ E, w.heap[b]? = some (.cells cs.toArray E (0, 0))
theorem BoxS.arg {C : Cx} {own : List Asn} {b : Nat} {cs : List Value} (h : BxA C.W0 b cs) (hS : ¬ C.S b := by exact id) : BoxS C own b cs := fun w hw => by
  obtain ⟨E, h⟩ := h
  exact ⟨E, by rw [hw.frame.block b (Array.getElem?_eq_some_iff.1 h).1 hS]; exact h⟩
theorem BxA.own {C : Cx} {own : List Asn} {w : World} {b : Nat} {E : TypeId} {sz : Nat} {cs : List Value} (i : Nat) (hw : HW C own w) (hi : own[i]? = some (box b E sz cs)) : BxA w b cs := BoxS.own (C := C) i hi w hw
theorem BxA.fr {w w' : World} {b : Nat} {cs : List Value} (h : BxA w b cs) (hf : FrameX (fun _ => False) w w') : BxA w' b cs := by
  obtain ⟨E, h⟩ := h
  exact ⟨E, by rw [hf.block b (Array.getElem?_eq_some_iff.1 h).1 id]; exact h⟩
theorem RdL.fr {α : Type} {f : α → Value} {w w' : World} {v : Value} {xs : List α} (h : RdL (fun _ => False) f w v xs) (hf : FrameX (fun _ => False) w w') : RdL (fun _ => False) f w' v xs :=
  Rd.mono h fun b _ hlt => ⟨id, hf.block b hlt id⟩
theorem RdLL.fr {α : Type} {f : α → Value} {w w' : World} {v : Value} {xss : List (List α)} (h : RdLL (fun _ => False) f w v xss) (hf : FrameX (fun _ => False) w w') : RdLL (fun _ => False) f w' v xss := by
  obtain ⟨rs, h1, h2, h3⟩ := h
  exact ⟨rs, h1, Rd.mono h2 fun b _ hlt => ⟨id, hf.block b hlt id⟩, fun i hi => (h3 i hi).fr hf⟩
def nilD : Dfa := ⟨0, 0, [], []⟩
def TrimV (d : Dfa) : Dfa := if VD d then trimD d else nilD
def NumV (d : Dfa) : List Int := if VD d then numT d else []
/-- marks -/
def metL (n : Nat) (l : List Int) : List Bool := (List.range n).map fun (i : Nat) => decide ((i : Int) ∈ l)
theorem metL_len (n : Nat) (l : List Int) : (metL n l).length = n := by simp [metL]
theorem metL_get {n : Nat} {l : List Int} {q : Int} (h : 0 ≤ q ∧ q < n) : (metL n l).getD q.toNat false = decide (q ∈ l) := by
  have h1 : q.toNat < n := by omega
  have h2 : ((q.toNat : Nat) : Int) = q := by omega
  simp [metL, List.getD_eq_getElem?_getD, h1, h2]
theorem metL_set {n : Nat} {l : List Int} {q : Int} (h : 0 ≤ q ∧ q < n) : (metL n l).set q.toNat true = metL n (l ++ [q]) := by
  apply List.ext_getElem
  · simp [metL]
  · intro i h1 h2
    rw [List.getElem_set]
    have hi : i < n := by simpa [metL] using h2
    simp only [metL, List.getElem_map, List.getElem_range]
    by_cases e : q.toNat = i
    · rw [if_pos e]
      have : ((i : Nat) : Int) = q := by omega
      simp [this]
    · rw [if_neg e]
      have : ¬ ((i : Nat) : Int) = q := by omega
      simp [this]
theorem metL_nil (n : Nat) : metL n [] = List.replicate n false := by
  apply List.ext_getElem
  · simp [metL]
  · intro i h1 h2; simp [metL]
end Go.Sx
