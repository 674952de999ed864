import Derived.Test.YtifnofnnjcchhaaBP
set_option linter.unusedVariables false
set_option linter.unusedSectionVars false
set_option linter.unusedSimpArgs false
namespace Go.Sx.Pt
/-! ### merging classes -/
theorem mergeL_mem {xs : List Int} {i j : Nat} {c : Int} (h : c ∈ mergeL xs i j) (hi : i < xs.length) (hne : xs.getD i 0 ≠ xs.getD j 0) : c ∈ xs ∧ c ≠ xs.getD j 0 := by
  unfold mergeL at h
  rw [List.mem_map] at h
  obtain ⟨e, he, rfl⟩ := h
  split
  · exact ⟨mem_getD 0 hi, hne⟩
  · rename_i h1; exact ⟨he, h1⟩
theorem ded_merge {xs : List Int} {i j : Nat} (hi : i < xs.length) (hj : j < xs.length) (hne : xs.getD i 0 ≠ xs.getD j 0) : (ded (mergeL xs i j)).length < (ded xs).length := by
  have h1 : (ded (mergeL xs i j)).length ≤ ((ded xs).erase (xs.getD j 0)).length := by
    refine nodup_sub_len (ded_nodup _) fun y hy => ?_
    obtain ⟨h2, h3⟩ := mergeL_mem (ded_mem.1 hy) hi hne
    exact (List.mem_erase_of_ne h3).2 (ded_mem.2 h2)
  have h2 : xs.getD j 0 ∈ ded xs := ded_mem.2 (mem_getD 0 hj)
  rw [List.length_erase_of_mem h2] at h1
  have h3 := List.length_pos_of_mem h2
  omega
theorem ker_merge {xs : List Int} {i j u v : Nat} (hi : i < xs.length) (hj : j < xs.length) (hu : u < xs.length) (hv : v < xs.length) : (mergeL xs i j).getD u 0 = (mergeL xs i j).getD v 0 ↔ (xs.getD u 0 = xs.getD v 0 ∨ ((xs.getD u 0 = xs.getD i 0 ∨ xs.getD u 0 = xs.getD j 0) ∧ (xs.getD v 0 = xs.getD i 0 ∨ xs.getD v 0 = xs.getD j 0))) := by
  rw [mergeL_get hu, mergeL_get hv]
  exact relabel _ _ _ _
/-- what the reference's list is on the way: n numbers, not coarser than the finest closed partition, the start states together -/
structure LInv (a b : Dfa) (p : List Int) : Prop where
  len : p.length = a.fin.length + b.fin.length
  sound : ∀ u v, u < a.fin.length + b.fin.length → v < a.fin.length + b.fin.length → p.getD u 0 = p.getD v 0 → Gen (PR (psL a b)) u v
  start : p.getD a.s.toNat 0 = p.getD ((a.fin.length : Int) + b.s).toNat 0
theorem LInv.init {a b : Dfa} (ha : VD a) (hb : VD b) (hL : a.L = b.L) : LInv a b (mergeL (idl (a.fin.length + b.fin.length)) a.s.toNat ((a.fin.length : Int) + b.s).toNat) := by
  have h1 := ha.s
  have h2 := hb.s
  have hl : (idl (a.fin.length + b.fin.length)).length = a.fin.length + b.fin.length := idl_length _
  have hg := (gen_clo ha hb hL).start
  have hE := Gen.eqv (PR (psL a b))
  refine ⟨by rw [mergeL_length, hl], fun u v hu hv h => ?_, ?_⟩
  · rw [ker_merge (by omega) (by omega) (by omega) (by omega), idl_get hu, idl_get hv, idl_get (by omega), idl_get (by omega)] at h
    rcases h with h | ⟨h3, h4⟩
    · have : u = v := by omega
      subst this; exact hE.refl _
    · have e1 : Gen (PR (psL a b)) u a.s.toNat := by
        rcases h3 with h | h
        · have : u = a.s.toNat := by omega
          rw [this]; exact hE.refl _
        · have : u = ((a.fin.length : Int) + b.s).toNat := by omega
          rw [this]; exact hE.symm _ _ hg
      have e2 : Gen (PR (psL a b)) v a.s.toNat := by
        rcases h4 with h | h
        · have : v = a.s.toNat := by omega
          rw [this]; exact hE.refl _
        · have : v = ((a.fin.length : Int) + b.s).toNat := by omega
          rw [this]; exact hE.symm _ _ hg
      exact hE.trans _ _ _ e1 (hE.symm _ _ e2)
  · rw [ker_merge (by omega) (by omega) (by omega) (by omega)]
    exact .inr ⟨.inl rfl, .inr rfl⟩
theorem LInv.merge {a b : Dfa} {p : List Int} (h : LInv a b p) {s t : Nat} (hs : s < a.fin.length + b.fin.length) (ht : t < a.fin.length + b.fin.length) (hg : Gen (PR (psL a b)) s t) (h1 : a.s.toNat < a.fin.length + b.fin.length) (h2 : ((a.fin.length : Int) + b.s).toNat < a.fin.length + b.fin.length) : LInv a b (mergeL p s t) := by
  have hE := Gen.eqv (PR (psL a b))
  have hl := h.len
  refine ⟨by rw [mergeL_length, hl], fun u v hu hv hk => ?_, ?_⟩
  · rw [ker_merge (by omega) (by omega) (by omega) (by omega)] at hk
    rcases hk with hk | ⟨h3, h4⟩
    · exact h.sound u v hu hv hk
    · have e1 : Gen (PR (psL a b)) u s := by
        rcases h3 with h3 | h3
        · exact h.sound u s hu hs h3
        · exact hE.trans _ _ _ (h.sound u t hu ht h3) (hE.symm _ _ hg)
      have e2 : Gen (PR (psL a b)) v s := by
        rcases h4 with h4 | h4
        · exact h.sound v s hv hs h4
        · exact hE.trans _ _ _ (h.sound v t hv ht h4) (hE.symm _ _ hg)
      exact hE.trans _ _ _ e1 (hE.symm _ _ e2)
  · rw [ker_merge (by omega) (by omega) (by omega) (by omega)]
    exact .inl h.start
/-- the pairs that have been looked at: before (i, j), and of this one the letters before x -/
def Seen (i j x i' j' x' : Nat) : Prop := i' < i ∨ (i' = i ∧ (j' < j ∨ (j' = j ∧ x' < x)))
def Closed1 (a b : Dfa) (p : List Int) (i j x : Nat) : Prop := ∀ i' j' x' : Nat, i' < a.fin.length + b.fin.length → j' < i' → (x' : Int) < a.L → Seen i j x i' j' x' → p.getD i' 0 = p.getD j' 0 → p.getD (sB a b x' i') 0 = p.getD (sB a b x' j') 0
/-- a round that began with p0 -/
structure LRnd (a b : Dfa) (p0 : List Int) (i j x : Nat) (ch : Bool) (p : List Int) : Prop where
  inv : LInv a b p
  same : ch = false → p = p0 ∧ Closed1 a b p i j x
  less : ch = true → (ded p).length < (ded p0).length
  le : (ded p).length ≤ (ded p0).length
theorem LRnd.init {a b : Dfa} {p : List Int} (h : LInv a b p) : LRnd a b p 0 0 0 false p :=
  ⟨h, fun _ => ⟨rfl, fun i' j' x' _ _ _ hs => by unfold Seen at hs; omega⟩, fun h => (by cases h), Nat.le_refl _⟩
theorem LRnd.weak {a b : Dfa} {p0 p : List Int} {i j x i2 j2 x2 : Nat} {ch : Bool} (h : LRnd a b p0 i j x ch p) (hs : ch = false → ∀ i' j' x' : Nat, i' < a.fin.length + b.fin.length → j' < i' → (x' : Int) < a.L → Seen i2 j2 x2 i' j' x' → Seen i j x i' j' x' ∨ (i' = i ∧ j' = j ∧ ¬ p.getD i' 0 = p.getD j' 0) ∨ (i' = i ∧ j' = j ∧ x' = x ∧ p.getD (sB a b x' i') 0 = p.getD (sB a b x' j') 0)) : LRnd a b p0 i2 j2 x2 ch p :=
  ⟨h.inv, fun hc => ⟨(h.same hc).1, fun i' j' x' h1 h2 h3 h4 h5 => by
    rcases hs hc i' j' x' h1 h2 h3 h4 with hh | ⟨_, _, hh⟩ | ⟨_, _, _, hh⟩
    · exact (h.same hc).2 i' j' x' h1 h2 h3 hh h5
    · exact absurd h5 hh
    · exact hh⟩, h.less, h.le⟩
theorem LRnd.merge {a b : Dfa} (ha : VD a) (hb : VD b) (hL : a.L = b.L) {p0 p : List Int} {i j x : Nat} {ch : Bool} (h : LRnd a b p0 i j x ch p) (hi : i < a.fin.length + b.fin.length) (hj : j < i) (hx : (x : Int) < a.L) (he : p.getD i 0 = p.getD j 0) (hne : p.getD (sB a b x i) 0 ≠ p.getD (sB a b x j) 0) : LRnd a b p0 i j (x + 1) true (mergeL p (sB a b x i) (sB a b x j)) := by
  have h1 := ha.s
  have h2 := hb.s
  have hl := h.inv.len
  have hs := sB_lt ha hb hL hi hx
  have ht := sB_lt ha hb hL (show j < _ by omega) hx
  have hd := ded_merge (xs := p) (i := sB a b x i) (j := sB a b x j) (by omega) (by omega) hne
  have hg := (gen_clo ha hb hL).step i j x hx hi (by omega) (h.inv.sound i j hi (by omega) he)
  have hle := h.le
  exact ⟨h.inv.merge hs ht hg (by omega) (by omega), fun hc => (by cases hc), fun _ => by omega, by omega⟩
theorem LRnd.done {a b : Dfa} (ha : VD a) (hb : VD b) (hL : a.L = b.L) {p0 p : List Int} {i j x : Nat} (h : LRnd a b p0 i j x false p) (hi : a.fin.length + b.fin.length ≤ i) : canonB p = leastL a b := by
  have hl := h.inv.len
  have hn1 := ha.n
  have hn2 := hb.n
  have h1 := ha.s
  have h2 := hb.s
  have hcl := (h.same rfl).2
  have hK : Clo a b (fun u v => u = v ∨ (u < a.fin.length + b.fin.length ∧ v < a.fin.length + b.fin.length ∧ p.getD u 0 = p.getD v 0)) := by
    refine ⟨⟨fun u => .inl rfl, fun u v h => ?_, fun u v w h k => ?_⟩, .inr ⟨by omega, by omega, h.inv.start⟩, fun u v x hx hu hv hk => ?_⟩
    · rcases h with rfl | ⟨g1, g2, g3⟩
      · exact .inl rfl
      · exact .inr ⟨g2, g1, g3.symm⟩
    · rcases h with rfl | ⟨g1, g2, g3⟩
      · exact k
      · rcases k with rfl | ⟨k1, k2, k3⟩
        · exact .inr ⟨g1, g2, g3⟩
        · exact .inr ⟨g1, k2, g3.trans k3⟩
    · rcases hk with rfl | ⟨_, _, hk⟩
      · exact .inl rfl
      · refine .inr ⟨sB_lt ha hb hL hu hx, sB_lt ha hb hL hv hx, ?_⟩
        rcases Nat.lt_trichotomy u v with hlt | rfl | hlt
        · exact (hcl v u x hv hlt hx (.inl (by omega)) hk.symm).symm
        · rfl
        · exact hcl u v x hu hlt hx (.inl (by omega)) hk
  unfold canonB
  rw [if_pos (by omega)]
  unfold leastL fromB
  rw [if_pos (ps_may ha hb hL)]
  have e : ((a.fin.length : Int) + b.fin.length).toNat = a.fin.length + b.fin.length := by omega
  rw [e]
  refine canon_of_ker (by rw [rhoL_length]; exact hl) fun u v hu hv => ?_
  rw [Ker.iff hu hv, ker_rho (by omega) (by omega), ufs_gen]
  constructor
  · exact h.inv.sound u v (by omega) (by omega)
  · intro hg
    rcases hK.ge ha hb hL hg with rfl | ⟨_, _, h3⟩
    · rfl
    · exact h3
/-! ### checking -/
structure ChkP (a b : Dfa) (p : List Int) : Prop where
  ok : pairE a b = 0
  len : p.length = a.fin.length + b.fin.length
  valid : ValidP p
  start : p.getD a.s.toNat 0 = p.getD ((a.fin.length : Int) + b.s).toNat 0
  fin : ∀ u v, u < a.fin.length + b.fin.length → v < a.fin.length + b.fin.length → p.getD u 0 = p.getD v 0 → fB a b u = fB a b v
  step : ∀ u v (x : Nat), (x : Int) < a.L → u < a.fin.length + b.fin.length → v < a.fin.length + b.fin.length → p.getD u 0 = p.getD v 0 → p.getD (sB a b x u) 0 = p.getD (sB a b x v) 0
theorem ChkP.clo {a b : Dfa} {p : List Int} (h : ChkP a b p) : Clo a b (Ker p) := by
  obtain ⟨ha, hb, hL⟩ := pairE_zero h.ok
  have h1 := ha.s
  have h2 := hb.s
  have hl := h.len
  refine ⟨Ker.eqv p, (Ker.iff (by omega) (by omega)).2 h.start, fun u v x hx hu hv hk => ?_⟩
  rw [Ker.iff (by rw [hl]; exact sB_lt ha hb hL hu hx) (by rw [hl]; exact sB_lt ha hb hL hv hx)]
  exact h.step u v x hx hu hv ((Ker.iff (by omega) (by omega)).1 hk)
theorem ChkP.lng {a b : Dfa} {p : List Int} (h : ChkP a b p) : Lng a b := by
  obtain ⟨ha, hb, hL⟩ := pairE_zero h.ok
  have hl := h.len
  exact h.clo.lng ha hb hL (fun u v hu hv hk => h.fin u v hu hv ((Ker.iff (by omega) (by omega)).1 hk))
theorem chk_find {a b : Dfa} (h : pairE a b = 0) (hf : FindB a b = true) : ChkP a b (FindP a b) := by
  obtain ⟨ha, hb, hL⟩ := pairE_zero h
  have h1 := ha.s
  have h2 := hb.s
  have hlng := (find_iff h).1 hf
  have e : FindP a b = leastL a b := if_pos hf
  have hl := leastL_len ha hb hL
  have hm := ps_may ha hb hL
  have hk : ∀ u v, u < a.fin.length + b.fin.length → v < a.fin.length + b.fin.length → ((leastL a b).getD u 0 = (leastL a b).getD v 0 ↔ Gen (PR (psL a b)) u v) := fun u v hu hv => by
    rw [← ker_fromB hm, ← Ker.iff (by omega) (by omega)]; rfl
  have hc := gen_clo ha hb hL
  rw [e]
  refine ⟨h, hl, valid_fromB _ _, (hk _ _ (by omega) (by omega)).2 hc.start, fun u v hu hv he => ?_, fun u v x hx hu hv he => ?_⟩
  · have hE : Eqv (fun u v => fB a b u = fB a b v) := ⟨fun u => rfl, fun u v h => Eq.symm h, fun u v w h k => Eq.trans h k⟩
    refine Gen.le hE ?_ ((hk u v hu hv).1 he)
    rintro u v ⟨p, hp, rfl, rfl⟩
    unfold psL at hp
    rw [List.mem_map] at hp
    obtain ⟨q, hq, rfl⟩ := hp
    obtain ⟨i1, i2⟩ := ps_in ha hb hL hq
    obtain ⟨l, hl2, rfl⟩ := (psL_mem ha hb hL _).1 hq
    show fB a b (runI a a.s l).toNat = fB a b ((a.fin.length : Int) + runI b b.s l).toNat
    rw [fB_l i1, fB_r i2]
    exact hlng l hl2
  · exact (hk _ _ (sB_lt ha hb hL hu hx) (sB_lt ha hb hL hv hx)).2 (hc.step u v x hx hu hv ((hk u v hu hv).1 he))
/-- the found partition is the finest -/
theorem chk_finest {a b : Dfa} {p : List Int} (h : ChkP a b p) : FindB a b = true ∧ kerB 0 (FindP a b) p = true ∧ (FindP a b).length = p.length := by
  obtain ⟨ha, hb, hL⟩ := pairE_zero h.ok
  have hf := (find_iff h.ok).2 h.lng
  have e : FindP a b = leastL a b := if_pos hf
  have hl := leastL_len ha hb hL
  have hpl := h.len
  refine ⟨hf, ?_, by rw [e, hl, hpl]⟩
  rw [e, kerB_iff]
  intro i j hi hj hij
  have hk : Ker (fromB ((a.fin.length : Int) + b.fin.length) (psL a b)) i j := (Ker.iff hi hj).2 hij
  rw [ker_fromB (ps_may ha hb hL)] at hk
  exact (Ker.iff (by omega) (by omega)).1 (h.clo.ge ha hb hL hk)
end Go.Sx.Pt
