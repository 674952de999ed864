import Derived.Test.YtckicbgffhbacaaDoorNi
set_option linter.unusedVariables false
set_option linter.unusedSimpArgs false
namespace Go.Sx
open Go.RowKit
/-! ### the subset automaton of a deterministic one -/
section
variable {α β : Type} [DecidableEq α] [DecidableEq β]
theorem insN_map {g : α → β} {l : List α} {x : α} (hi : ∀ y ∈ l, g y = g x → y = x) : insN (l.map g) (g x) = (insN l x).map g := by
  unfold insN
  by_cases h : x ∈ l
  · rw [if_pos h, if_pos (List.mem_map_of_mem h)]
  · rw [if_neg h, if_neg, List.map_append]; rfl
    intro h2
    obtain ⟨y, hy, e⟩ := List.mem_map.1 h2
    exact h (hi y hy e ▸ hy)
theorem exR_map {g : α → β} {f : α → Nat → α} {f' : β → Nat → β} {U : List α} {L : Nat} (hf : ∀ q ∈ U, ∀ x, x < L → f q x ∈ U) (hff : ∀ q ∈ U, ∀ x, x < L → f' (g q) x = g (f q x)) (hi : ∀ a ∈ U, ∀ b ∈ U, g a = g b → a = b)
    {q : α} {l : List α} (hq : q ∈ U) (hl : ∀ y ∈ l, y ∈ U) : ∀ k, k ≤ L → exR f' (g q) (l.map g) k = (exR f q l k).map g
  | 0, _ => rfl
  | k + 1, h => by
    show insN (exR f' (g q) (l.map g) k) (f' (g q) k) = (insN (exR f q l k) (f q k)).map g
    rw [exR_map hf hff hi hq hl k (by omega), hff q hq k (by omega)]
    exact insN_map fun y hy e => hi y (exR_sub hl (hf q hq) k (by omega) y hy) _ (hf q hq k (by omega)) e
theorem exI_map {g : α → β} {f : α → Nat → α} {f' : β → Nat → β} {U : List α} {L : Nat} (hf : ∀ q ∈ U, ∀ x, x < L → f q x ∈ U) (hff : ∀ q ∈ U, ∀ x, x < L → f' (g q) x = g (f q x)) (hi : ∀ a ∈ U, ∀ b ∈ U, g a = g b → a = b)
    {s z : α} (z' : β) (hs : s ∈ U) : ∀ i, exI f' L (g s) z' i = (exI f L s z i).map g
  | 0 => rfl
  | i + 1 => by
    have ih := exI_map hf hff hi (z := z) z' hs i
    have hU := (exI_ok (z := z) hs hf i).2
    show (if i < (exI f' L (g s) z' i).length then exR f' ((exI f' L (g s) z' i).getD i z') (exI f' L (g s) z' i) L else exI f' L (g s) z' i) = (if i < (exI f L s z i).length then exR f ((exI f L s z i).getD i z) (exI f L s z i) L else exI f L s z i).map g
    rw [ih, List.length_map]
    by_cases h : i < (exI f L s z i).length
    · rw [if_pos h, if_pos h]
      have e : ((exI f L s z i).map g).getD i z' = g ((exI f L s z i).getD i z) := by
        simp [List.getD_eq_getElem?_getD, h]
      rw [e]
      exact exR_map hf hff hi (hU _ (getD_mem (d := z) h)) hU L (Nat.le_refl _)
    · rw [if_neg h, if_neg h]
theorem posN_map {g : α → β} {U : List α} (hi : ∀ a ∈ U, ∀ b ∈ U, g a = g b → a = b) {q : α} (hq : q ∈ U) : ∀ l : List α, (∀ y ∈ l, y ∈ U) → posN (l.map g) (g q) = posN l q
  | [], _ => rfl
  | b :: l, h => by
    have ih := posN_map hi hq l (fun y hy => h y (List.mem_cons_of_mem _ hy))
    show (if g q = g b then 0 else posN (l.map g) (g q) + 1) = (if q = b then 0 else posN l q + 1)
    by_cases e : q = b
    · rw [if_pos e, if_pos (by rw [e])]
    · rw [if_neg e, if_neg (fun h2 => e (hi q hq b (h b (List.mem_cons_self ..)) h2)), ih]
end
theorem z64 (i : Nat) : (0 : W64).getLsbD i = false := BitVec.getLsbD_zero
theorem dm_lt {k L : Nat} (hL : 1 ≤ L ∧ L ≤ 6) (hk : 0 < k) : (k - 1) / L < k / L ∨ ((k - 1) / L = k / L ∧ (k - 1) % L < k % L) := by
  have h : L = 1 ∨ L = 2 ∨ L = 3 ∨ L = 4 ∨ L = 5 ∨ L = 6 := by omega
  rcases h with rfl | rfl | rfl | rfl | rfl | rfl <;> omega
def eK (d : Dfa) (j : Nat) : Edg := (((j / d.L.toNat : Nat) : Int), ((j % d.L.toNat : Nat) : Int), (d.nx.getD (j / d.L.toNat) []).getD (j % d.L.toNat) 0)
theorem eK_at {d : Dfa} {k x : Nat} (hx : x < d.L.toNat) : eK d (k * d.L.toNat + x) = ((k : Int), (x : Int), (d.nx.getD k []).getD x 0) := by
  have e1 : (k * d.L.toNat + x) / d.L.toNat = k := by
    rw [Nat.mul_comm, Nat.mul_add_div (by omega), Nat.div_eq_of_lt hx, Nat.add_zero]
  have e2 : (k * d.L.toNat + x) % d.L.toNat = x := by
    rw [Nat.mul_comm, Nat.mul_add_mod, Nat.mod_eq_of_lt hx]
  unfold eK; rw [e1, e2]
theorem tes_is {d : Dfa} (hv : VD d) : ∀ k, k ≤ d.fin.length → tes d k = (List.range (k * d.L.toNat)).map (eK d)
  | 0, _ => by simp [tes]
  | k + 1, h => by
    have h2 := hv.row k (by omega)
    have h3 : (d.nx.getD k []).length = d.L.toNat := by omega
    rw [tes, tes_is hv k (by omega), Nat.succ_mul, List.range_add, List.map_append, h3]
    congr 1
    unfold rE
    rw [List.map_map]
    apply List.map_congr_left
    intro x hx
    exact (eK_at (List.mem_range.1 hx)).symm
theorem es_len {d : Dfa} (hv : VD d) : (toN d).es.length = d.fin.length * d.L.toNat := by
  show (tes d d.fin.length).length = _
  rw [tes_is hv _ (Nat.le_refl _)]; simp
theorem es_get {d : Dfa} (hv : VD d) {j : Nat} (hj : j < d.fin.length * d.L.toNat) : (toN d).es.getD j (0, 0, 0) = eK d j := by
  show (tes d d.fin.length).getD j _ = _
  rw [tes_is hv _ (Nat.le_refl _)]; simp [List.getD_eq_getElem?_getD, hj]
theorem eK_bd {d : Dfa} (hv : VD d) {j : Nat} (hj : j < d.fin.length * d.L.toNat) : j / d.L.toNat < d.fin.length ∧ j % d.L.toNat < d.L.toNat ∧ 0 ≤ (eK d j).2.2 ∧ (eK d j).2.2 < d.fin.length := by
  have hL := hv.L
  have h1 : j / d.L.toNat < d.fin.length := Nat.div_lt_of_lt_mul (by rw [Nat.mul_comm]; exact hj)
  have h2 : j % d.L.toNat < d.L.toNat := Nat.mod_lt _ (by omega)
  have h3 := hv.row (j / d.L.toNat) h1
  exact ⟨h1, h2, hv.to _ _ h1 (by omega)⟩
theorem tfi_get {d : Dfa} {i : Nat} : ∀ k, k ≤ 64 → ((tfi d k).getLsbD i = true ↔ i < k ∧ d.fin.getD i false = true)
  | 0, _ => by simp [tfi]
  | k + 1, h => by
    have ih := tfi_get (d := d) (i := i) k (by omega)
    cases hf : d.fin.getD k false with
    | true =>
      rw [tfi_yes hf, BitVec.getLsbD_or, Bool.or_eq_true, ih, bit_get (by omega), decide_eq_true_iff]
      constructor
      · rintro (h1 | h1)
        · exact ⟨by omega, h1.2⟩
        · have : i = k := by omega
          subst this; exact ⟨by omega, hf⟩
      · rintro ⟨h1, h2⟩
        by_cases e : i = k
        · exact .inr (by omega)
        · exact .inl ⟨by omega, h2⟩
    | false =>
      rw [tfi_no hf, ih]
      constructor
      · rintro ⟨h1, h2⟩; exact ⟨by omega, h2⟩
      · rintro ⟨h1, h2⟩
        refine ⟨?_, h2⟩
        by_cases e : i = k
        · subst e; rw [hf] at h2; cases h2
        · omega
theorem toN_vn {d : Dfa} (hv : VD d) (h64 : (d.fin.length : Int) ≤ 64) : VN (toN d) where
  L := hv.L
  S := by show 0 ≤ (d.fin.length : Int) ∧ (d.fin.length : Int) ≤ 64; omega
  st := by
    have hs := hv.s
    apply BitVec.eq_of_getLsbD_eq
    intro i hi
    show ((bit d.s ||| tfi d d.fin.length) &&& ~~~(below (d.fin.length : Int))).getLsbD i = (0 : W64).getLsbD i
    rw [BitVec.getLsbD_and, BitVec.getLsbD_or, BitVec.getLsbD_not, below_bit (by omega) i hi, bit_get (by omega)]
    rw [z64]
    simp only [hi, decide_true, Bool.true_and]
    by_cases h : (i : Int) < d.fin.length
    · simp [h]
    · have e1 : decide ((i : Int) = d.s) = false := decide_eq_false (by omega)
      have e2 : (tfi d d.fin.length).getLsbD i = false := by
        cases e : (tfi d d.fin.length).getLsbD i with
        | false => rfl
        | true => have := (tfi_get _ (by omega)).1 e; omega
      rw [e1, e2]; rfl
  ed := fun k hk => by
    rw [es_len hv] at hk
    have hb := eK_bd hv hk
    have hL := hv.L
    unfold badE badB
    rw [es_get hv hk]
    have e1 : decide ((eK d k).1 < 0 ∨ (eK d k).1 ≥ (toN d).S ∨ (eK d k).2.2 < 0 ∨ (eK d k).2.2 ≥ (toN d).S ∨ (eK d k).2.1 < 0 ∨ (eK d k).2.1 ≥ (toN d).L) = false := by
      apply decide_eq_false
      have h1 : (eK d k).1 = ((k / d.L.toNat : Nat) : Int) := rfl
      have h2 : (eK d k).2.1 = ((k % d.L.toNat : Nat) : Int) := rfl
      have h3 : (toN d).S = (d.fin.length : Int) := rfl
      have h4 : (toN d).L = d.L := rfl
      rw [h1, h2, h3, h4]
      obtain ⟨b1, b2, b3, b4⟩ := hb
      generalize k / d.L.toNat = p at b1 ⊢
      generalize k % d.L.toNat = x at b2 ⊢
      omega
    show (decide _ || _) = false
    rw [e1, Bool.false_or]
    by_cases h0 : 0 < k
    · rw [decide_eq_true h0, Bool.true_and, es_get hv (by omega)]
      have hbf : bef (eK d (k - 1)) (eK d k) = true := by
        unfold bef eK
        rcases dm_lt (k := k) (L := d.L.toNat) (by omega) h0 with h | ⟨h, h'⟩
        · rw [if_pos (by dsimp only; omega)]; exact decide_eq_true (by dsimp only; omega)
        · rw [if_neg (by dsimp only; omega), if_pos (by dsimp only; omega)]; exact decide_eq_true (by dsimp only; omega)
      rw [hbf]; rfl
    · rw [decide_eq_false h0]; rfl
theorem bit_inj {a b : Int} (ha : 0 ≤ a ∧ a < 64) (hb : 0 ≤ b ∧ b < 64) (h : bit a = bit b) : a = b := by
  have h1 := congrArg (fun x => BitVec.getLsbD x a.toNat) h
  simp only [bit_get ha, bit_get hb] at h1
  rw [decide_eq_true (by omega)] at h1
  have := of_decide_eq_true h1.symm
  omega
theorem toN_step {d : Dfa} (hv : VD d) (h64 : (d.fin.length : Int) ≤ 64) {q : Int} (hq : 0 ≤ q ∧ q < d.fin.length) {x : Nat} (hx : x < d.L.toNat) : fS (toN d) (bit q) x = bit (stepQ d q x) := by
  have hst := mem_univ.1 (step_univ hv q (mem_univ.2 hq) x hx)
  have hlen := es_len hv
  apply BitVec.eq_of_getLsbD_eq
  intro i hi
  rw [Bool.eq_iff_iff]
  show (stpK (toN d).es (bit q) (x : Int) (toN d).es.length).getLsbD i = true ↔ _
  rw [stpK_get _ (fun j hj => by rw [hlen] at hj; rw [es_get hv hj]; have := eK_bd hv hj; omega), bit_get (by omega), decide_eq_true_iff]
  have hhas : ∀ p : Nat, p < 64 → (has (bit q) (p : Int) = true ↔ (p : Int) = q) := fun p hp => by
    unfold has; rw [bit_get (by omega), decide_eq_true_iff, Int.toNat_natCast]
  constructor
  · rintro ⟨j, h1, h2, h3, h4⟩
    rw [hlen] at h1
    have hb := eK_bd hv h1
    rw [es_get hv h1] at h2 h3 h4
    have h5 := (hhas (j / d.L.toNat) (by omega)).1 h3
    have h6 : j % d.L.toNat = x := by
      have : ((j % d.L.toNat : Nat) : Int) = (x : Int) := h2
      omega
    rw [h4]
    show (d.nx.getD (j / d.L.toNat) []).getD (j % d.L.toNat) 0 = (d.nx.getD q.toNat []).getD x 0
    rw [h6, show j / d.L.toNat = q.toNat by omega]
  · intro h
    have hj : q.toNat * d.L.toNat + x < d.fin.length * d.L.toNat := by
      have h1 : (q.toNat + 1) * d.L.toNat ≤ d.fin.length * d.L.toNat := Nat.mul_le_mul_right _ (by omega)
      rw [Nat.succ_mul] at h1
      omega
    refine ⟨q.toNat * d.L.toNat + x, by rw [hlen]; exact hj, ?_, ?_, ?_⟩
    · rw [es_get hv hj, eK_at hx]
    · rw [es_get hv hj, eK_at hx]; exact (hhas q.toNat (by omega)).2 (by omega)
    · rw [es_get hv hj, eK_at hx]; exact h
theorem toN_fin {d : Dfa} (h64 : (d.fin.length : Int) ≤ 64) {q : Int} (hq : 0 ≤ q ∧ q < d.fin.length) : gS (toN d) (bit q) = finQ d q := by
  show decide (bit q &&& tfi d d.fin.length ≠ 0) = d.fin.getD q.toNat false
  have hg := tfi_get (d := d) (i := q.toNat) d.fin.length (by omega)
  cases hf : d.fin.getD q.toNat false with
  | true =>
    apply decide_eq_true
    intro h
    have h1 := congrArg (fun x => BitVec.getLsbD x q.toNat) h
    simp only [BitVec.getLsbD_and, z64] at h1
    rw [hg.2 ⟨by omega, hf⟩, bit_get (by omega), decide_eq_true (by omega)] at h1
    cases h1
  | false =>
    apply decide_eq_false
    intro h
    apply h
    apply BitVec.eq_of_getLsbD_eq
    intro i hi
    rw [BitVec.getLsbD_and, bit_get (by omega), z64]
    by_cases e : (i : Int) = q
    · have e2 : q.toNat = i := by omega
      rw [e2] at hf
      have : (tfi d d.fin.length).getLsbD i = false := by
        cases e3 : (tfi d d.fin.length).getLsbD i with
        | false => rfl
        | true => have := ((tfi_get (d := d) (i := i) d.fin.length (by omega)).1 e3).2; rw [hf] at this; cases this
      rw [this, Bool.and_false]
    · rw [decide_eq_false e, Bool.false_and]
def bitU (d : Dfa) : List W64 := (univ d.fin.length).map bit
theorem bit_uok {d : Dfa} (hv : VD d) (h64 : (d.fin.length : Int) ≤ 64) : UOk (toN d) (bitU d) where
  st := List.mem_map_of_mem (start_univ hv)
  len := by have := hv.n; unfold bitU; rw [List.length_map, univ_len]; omega
  step := fun q hq x hx => by
    obtain ⟨p, hp, rfl⟩ := List.mem_map.1 hq
    rw [toN_step hv h64 (mem_univ.1 hp) hx]
    exact List.mem_map_of_mem (step_univ hv p hp x hx)
theorem sub_toN {d : Dfa} (hv : VD d) (h64 : (d.fin.length : Int) ≤ 64) : SubV (toN d) (bitU d) = trimD d := by
  have hvn := toN_vn hv h64
  rw [show SubV (toN d) (bitU d) = subU (toN d) (bitU d) from if_pos (errN_iff.2 hvn)]
  have hinj : ∀ a ∈ univ d.fin.length, ∀ b ∈ univ d.fin.length, bit a = bit b → a = b := fun a ha b hb h => by
    have h1 := mem_univ.1 ha; have h2 := mem_univ.1 hb
    exact bit_inj (by omega) (by omega) h
  have hset : setU (toN d) (bitU d) = (TSt d).map bit := by
    unfold setU bitU
    rw [List.length_map, univ_len]
    exact exI_map (step_univ hv) (fun q hq x hx => toN_step hv h64 (mem_univ.1 hq) hx) hinj 0 (start_univ hv) _
  have hTS : ∀ y ∈ TSt d, y ∈ univ d.fin.length := (exI_ok (z := 0) (start_univ hv) (step_univ hv) _).2
  have e1 : ((TSt d).map bit).map (gS (toN d)) = (TSt d).map (finQ d) := by
    rw [List.map_map]
    exact List.map_congr_left fun q hq => toN_fin h64 (mem_univ.1 (hTS q hq))
  have e2 : (((TSt d).map bit).map fun q => (List.range d.L.toNat).map fun x => ((posN ((TSt d).map bit) (fS (toN d) q x) : Nat) : Int)) = (TSt d).map fun q => (List.range d.L.toNat).map fun x => ((posN (TSt d) (stepQ d q x) : Nat) : Int) := by
    rw [List.map_map]
    refine List.map_congr_left fun q hq => List.map_congr_left fun x hx => ?_
    have hx' := List.mem_range.1 hx
    have hqU := hTS q hq
    show ((posN ((TSt d).map bit) (fS (toN d) (bit q) x) : Nat) : Int) = _
    rw [toN_step hv h64 (mem_univ.1 hqU) hx', posN_map hinj (step_univ hv q hqU x hx') (TSt d) hTS]
  unfold subU genD trimD
  rw [hset, e1]
  show (⟨d.L, 0, _, _⟩ : Dfa) = _
  exact congrArg (Dfa.mk d.L 0 _) e2
end Go.Sx
