import Derived.Test.YtifnofnnjcchhaaBd
set_option linter.unusedVariables false
set_option linter.unusedSectionVars false
set_option linter.unusedSimpArgs false
namespace Go.Sx.Pt
/-! ### isomorphisms -/
theorem add_modC {q k n : Nat} (hq : q < n) (hk : k < n) : (q + k) % n = if q + k < n then q + k else q + k - n := by
  split
  · rename_i h; exact Nat.mod_eq_of_lt h
  · rename_i h
    rw [Nat.mod_eq_sub_mod (by omega)]
    exact Nat.mod_eq_of_lt (by omega)
theorem getD_setEq {α : Type} {l : List α} {i : Nat} {a z : α} (h : i < l.length) : (l.set i a).getD i z = a := by simp [h]
theorem getD_setNe {α : Type} {l : List α} {i j : Nat} {a z : α} (h : i ≠ j) : (l.set i a).getD j z = l.getD j z := by
  rw [List.getD_eq_getElem?_getD, List.getElem?_set_ne h, ← List.getD_eq_getElem?_getD]
def Full (d : Dfa) : Prop := (TSt d).length = d.fin.length
instance (d : Dfa) : Decidable (Full d) := inferInstanceAs (Decidable (_ = _))
theorem full_mem {d : Dfa} (hv : VD d) (hf : Full d) {q : Int} (hq : 0 ≤ q ∧ q < d.fin.length) : q ∈ TSt d := by
  obtain ⟨h1, h2, h3, h4⟩ := TSt_ok hv
  apply Classical.byContradiction
  intro hn
  have h5 := nodup_sub_len (xs := q :: TSt d) (U := univ d.fin.length) (List.nodup_cons.2 ⟨hn, h1⟩) (fun y hy => by
    rw [mem_univ]
    rcases List.mem_cons.1 hy with rfl | hy
    · exact hq
    · exact h2 y hy)
  rw [univ_len, List.length_cons, hf] at h5
  omega
theorem full_pos {d : Dfa} (hv : VD d) (hf : Full d) {q : Int} (hq : 0 ≤ q ∧ q < d.fin.length) : posN (TSt d) q < d.fin.length := by
  have := posN_lt (full_mem hv hf hq)
  rw [hf] at this; exact this
theorem full_num {d : Dfa} (hv : VD d) (hf : Full d) {q : Nat} (hq : q < d.fin.length) : (numT d).getD q 0 = ((posN (TSt d) (q : Int) : Nat) : Int) := by
  have := numT_mem hv (full_mem hv hf (q := (q : Int)) ⟨by omega, by omega⟩)
  rwa [Int.toNat_natCast] at this
theorem numT_len (d : Dfa) : (numT d).length = d.fin.length := numK_len _ _ _
theorem posN_inj {xs : List Int} {p q : Int} (hp : p ∈ xs) (hq : q ∈ xs) (h : posN xs p = posN xs q) : p = q := by
  rw [← getD_posN 0 hp, h, getD_posN 0 hq]
def isoL (a b : Dfa) : List Int := (univ a.fin.length).map fun s => (TSt b).getD (posN (TSt a) s) 0
def IsoE (a b : Dfa) : Int := if pairE a b ≠ 0 then pairE a b else if Full a ∧ Full b then 0 else 4
def IsoB (a b : Dfa) : Bool := decide (IsoE a b = 0) && decide (trimD a = trimD b)
def IsoF (a b : Dfa) : List Int := if IsoB a b = true then isoL a b else []
theorem isoL_len (a b : Dfa) : (isoL a b).length = a.fin.length := by unfold isoL; rw [List.length_map, univ_len]
theorem isoL_get {a b : Dfa} {s : Nat} (hs : s < a.fin.length) : (isoL a b).getD s 0 = (TSt b).getD (posN (TSt a) (s : Int)) 0 := by
  unfold isoL univ
  rw [List.map_map]
  simp [List.getD_eq_getElem?_getD, hs]
theorem isoE_zero {a b : Dfa} (h : IsoE a b = 0) : VD a ∧ VD b ∧ a.L = b.L ∧ Full a ∧ Full b := by
  unfold IsoE at h
  split at h
  · rename_i h1; exact absurd h h1
  · rename_i h1
    split at h
    · rename_i h2
      obtain ⟨ha, hb, hL⟩ := pairE_zero (Decidable.not_not.1 h1)
      exact ⟨ha, hb, hL, h2⟩
    · cases h
theorem trim_fl (d : Dfa) : (trimD d).fin.length = (TSt d).length := by simp [trimD]
theorem trim_len2 {a b : Dfa} (ha : Full a) (hb : Full b) (h : trimD a = trimD b) : a.fin.length = b.fin.length := by
  rw [← ha, ← hb, ← trim_fl, ← trim_fl, h]
/-- the states of b by their numbers, as far as k -/
def StK (b : Dfa) (k : Nat) (st : List Int) : Prop := st.length = b.fin.length ∧ ∀ q : Nat, q < k → st.getD (posN (TSt b) (q : Int)) 0 = (q : Int)
theorem StK.step {b : Dfa} (hv : VD b) (hf : Full b) {k : Nat} {st : List Int} (h : StK b k st) (hk : k < b.fin.length) : StK b (k + 1) (st.set (posN (TSt b) (k : Int)) (k : Int)) := by
  refine ⟨by rw [List.length_set]; exact h.1, fun q hq => ?_⟩
  have hp := full_pos hv hf (q := (k : Int)) ⟨by omega, by omega⟩
  rcases Nat.lt_or_eq_of_le (Nat.le_of_lt_succ hq) with h1 | rfl
  · rw [getD_set_other (fun e => ?_)]
    · exact h.2 q h1
    · have := posN_inj (full_mem hv hf (q := (k : Int)) ⟨by omega, by omega⟩) (full_mem hv hf (q := (q : Int)) ⟨by omega, by omega⟩) e
      omega
  · exact getD_set_same (by rw [h.1]; exact hp) _
theorem StK.done {b : Dfa} (hv : VD b) (hf : Full b) {st : List Int} (h : StK b b.fin.length st) : st = TSt b := by
  obtain ⟨h1, h2, _⟩ := TSt_ok hv
  apply List.ext_getElem
  · rw [h.1, hf]
  · intro i hi hi'
    have hm := h2 _ (getD_mem (d := 0) hi')
    have := h.2 ((TSt b).getD i 0).toNat (by omega)
    rw [Int.toNat_of_nonneg hm.1, posN_at 0 h1 hi'] at this
    simpa [List.getD_eq_getElem?_getD, hi, hi'] using this
/-- the isomorphism as the reference makes it, as far as k -/
def FtK (a b : Dfa) (k : Nat) (f : List Int) : Prop := f.length = a.fin.length ∧ ∀ j, j < k → f.getD ((TSt a).getD j 0).toNat 0 = (TSt b).getD j 0
theorem FtK.step {a b : Dfa} (hv : VD a) {k : Nat} {f : List Int} (h : FtK a b k f) (hk : k < (TSt a).length) : FtK a b (k + 1) (f.set ((TSt a).getD k 0).toNat ((TSt b).getD k 0)) := by
  obtain ⟨h1, h2, _⟩ := TSt_ok hv
  refine ⟨by rw [List.length_set]; exact h.1, fun j hj => ?_⟩
  have hm := h2 _ (getD_mem (d := 0) hk)
  rcases Nat.lt_or_eq_of_le (Nat.le_of_lt_succ hj) with h3 | rfl
  · have hmj := h2 _ (getD_mem (d := 0) (show j < (TSt a).length by omega))
    rw [getD_set_other (fun e => ?_)]
    · exact h.2 j h3
    · have e2 : (TSt a).getD k 0 = (TSt a).getD j 0 := by omega
      have := posN_at 0 h1 hk
      rw [e2, posN_at 0 h1 (by omega)] at this
      omega
  · exact getD_set_same (by rw [h.1]; omega) _
theorem FtK.done {a b : Dfa} (hv : VD a) (hf : Full a) {f : List Int} (h : FtK a b (TSt a).length f) : f = isoL a b := by
  apply List.ext_getElem
  · rw [h.1, isoL_len]
  · intro s hs hs'
    rw [h.1] at hs
    have hm := full_mem hv hf (q := (s : Int)) ⟨by omega, by omega⟩
    have := h.2 (posN (TSt a) (s : Int)) (posN_lt hm)
    rw [getD_posN 0 hm, Int.toNat_natCast, ← isoL_get hs] at this
    simpa [List.getD_eq_getElem?_getD, hs', show s < f.length by rw [h.1]; exact hs] using this
/-! ### an automaton whose states are turned -/
structure Turn1 (t : Dfa) (k m : Nat) (F : List Bool) (R : List (List Int)) : Prop where
  fl : F.length = t.fin.length
  rl : R.length = t.fin.length
  fin : ∀ q, q < m → F.getD ((q + k) % t.fin.length) false = t.fin.getD q false
  row : ∀ q, q < m → (R.getD ((q + k) % t.fin.length) []).length = (t.nx.getD q []).length
  to : ∀ q x, q < m → x < (t.nx.getD q []).length → (R.getD ((q + k) % t.fin.length) []).getD x 0 = ((t.nx.getD q []).getD x 0 + k) % t.fin.length
  nil : ∀ q, m ≤ q → q < t.fin.length → R.getD ((q + k) % t.fin.length) [] = []
theorem mod_inj {n k q q' : Nat} (hk : k < n) (hq : q < n) (hq' : q' < n) (h : (q + k) % n = (q' + k) % n) : q = q' := by
  rw [add_modC hq hk, add_modC hq' hk] at h
  split at h <;> split at h <;> omega
theorem Turn1.init {t : Dfa} (k : Nat) : Turn1 t k 0 (List.replicate t.fin.length false) (List.replicate t.fin.length []) :=
  ⟨by simp, by simp, fun q h => by omega, fun q h => by omega, fun q x h => by omega, fun q _ _ => by
    rw [List.getD_eq_getElem?_getD]
    cases h : (List.replicate t.fin.length ([] : List Int))[(q + k) % t.fin.length]? with
    | none => rfl
    | some u => obtain ⟨h1, h2⟩ := List.getElem?_eq_some_iff.1 h; simpa using h2.symm⟩
theorem Turn1.step {t : Dfa} {k m : Nat} {F : List Bool} {R : List (List Int)} {ys : List Int} (h : Turn1 t k m F R) (hk : k < t.fin.length) (hm : m < t.fin.length) (hl : ys.length = (t.nx.getD m []).length) (hy : ∀ x, x < ys.length → ys.getD x 0 = ((t.nx.getD m []).getD x 0 + k) % t.fin.length) : Turn1 t k (m + 1) (F.set ((m + k) % t.fin.length) (t.fin.getD m false)) (R.set ((m + k) % t.fin.length) ys) := by
  have hlt : (m + k) % t.fin.length < t.fin.length := Nat.mod_lt _ (by omega)
  have ne : ∀ q, q < t.fin.length → q ≠ m → (m + k) % t.fin.length ≠ (q + k) % t.fin.length := fun q hq hn e => hn (mod_inj hk hm hq e).symm
  refine ⟨by rw [List.length_set]; exact h.fl, by rw [List.length_set]; exact h.rl, fun q hq => ?_, fun q hq => ?_, fun q x hq hx => ?_, fun q hq hq' => ?_⟩
  · by_cases e : q = m
    · subst e; exact getD_setEq (by rw [h.fl]; exact hlt)
    · rw [getD_setNe (ne q (by omega) e)]; exact h.fin q (by omega)
  · by_cases e : q = m
    · subst e; rw [getD_setEq (by rw [h.rl]; exact hlt)]; exact hl
    · rw [getD_setNe (ne q (by omega) e)]; exact h.row q (by omega)
  · by_cases e : q = m
    · subst e; rw [getD_setEq (by rw [h.rl]; exact hlt)]; exact hy x (by omega)
    · rw [getD_setNe (ne q (by omega) e)]; exact h.to q x (by omega) hx
  · rw [getD_setNe (ne q hq' (by omega))]; exact h.nil q (by omega) hq'
theorem turn_ex {n k i : Nat} (hk : k < n) (hi : i < n) : ∃ q, q < n ∧ i = (q + k) % n := by
  refine ⟨(i + n - k) % n, Nat.mod_lt _ (by omega), ?_⟩
  rw [Nat.mod_add_mod, show i + n - k + k = i + n by omega, Nat.add_mod_right, Nat.mod_eq_of_lt hi]
theorem Turn1.vd {t : Dfa} (hv : VD t) {k : Nat} {F : List Bool} {R : List (List Int)} (h : Turn1 t k t.fin.length F R) (hk : k < t.fin.length) : VD ⟨t.L, k, F, R⟩ := by
  have hfl := h.fl
  have hrl := h.rl
  refine ⟨hv.L, by show F.length ≤ 512; rw [hfl]; exact hv.n, by show R.length = F.length; omega, ⟨by show (0 : Int) ≤ k; omega, by show (k : Int) < (F.length : Int); omega⟩, ?_, ?_⟩
  · intro i hi
    obtain ⟨q, hq, rfl⟩ := turn_ex hk (show i < t.fin.length by rw [← hfl]; exact hi)
    show (((R.getD _ []).length : Nat) : Int) = t.L
    rw [h.row q hq]; exact hv.row q hq
  · intro i x hi hx
    obtain ⟨q, hq, rfl⟩ := turn_ex hk (show i < t.fin.length by rw [← hfl]; exact hi)
    have hx' : x < (R.getD ((q + k) % t.fin.length) []).length := hx
    rw [h.row q hq] at hx'
    show 0 ≤ (R.getD _ []).getD x 0 ∧ (R.getD _ []).getD x 0 < (F.length : Int)
    rw [h.to q x hq hx', hfl]
    exact ⟨Int.emod_nonneg _ (by omega), Int.emod_lt_of_pos _ (by omega)⟩
theorem full_trim {d : Dfa} (hv : VD d) : Full (trimD d) := by
  unfold Full
  rw [← trim_fl, trim_trim hv]
/-- what the turned one is -/
theorem Turn1.iso {d : Dfa} (hd : VD d) {k : Nat} {F : List Bool} {R : List (List Int)} (h : Turn1 (trimD d) k (trimD d).fin.length F R) (hk : k < (trimD d).fin.length) :
    IsoE (trimD d) ⟨(trimD d).L, k, F, R⟩ = 0 ∧ IsoB (trimD d) ⟨(trimD d).L, k, F, R⟩ = true ∧ IsoF (trimD d) ⟨(trimD d).L, k, F, R⟩ = (List.range (trimD d).fin.length).map fun (q : Nat) => ((q : Int) + k) % ((trimD d).fin.length : Int) := by
  have hv := trim_vd hd
  have hf := full_trim hd
  generalize htt : trimD d = t at *
  have hts : t.s = 0 := by rw [← htt]; rfl
  have he := h.vd hv hk
  have hn0 : 0 < t.fin.length := by omega
  have hfl := h.fl
  have hbk : ∀ p i : Int, InR t p → i = (p + k) % (t.fin.length : Int) → i.toNat = (p.toNat + k) % t.fin.length := by
    intro p i hp hi
    have p1 := hp.1
    have e : i = (((p.toNat + k) % t.fin.length : Nat) : Int) := by
      rw [hi, Int.natCast_emod, Int.natCast_add, Int.toNat_of_nonneg p1]
    omega
  obtain ⟨r1, r2⟩ := trim_of_rel (a := t) (b := ⟨t.L, k, F, R⟩) hv he rfl (fun p i => InR t p ∧ i = (p + k) % (t.fin.length : Int)) (by
      rintro p i p' i' ⟨hp, hi⟩ ⟨hp', hi'⟩
      constructor
      · rintro rfl; rw [hi, hi']
      · intro e
        have e1 := hbk p i hp hi
        have e2 := hbk p' i' hp' hi'
        rw [e] at e1
        have p1 := hp.1; have p2 := hp.2; have q1 := hp'.1; have q2 := hp'.2
        have := mod_inj hk (show p.toNat < _ by omega) (show p'.toNat < _ by omega) (e1.symm.trans e2)
        omega) ⟨hv.s, by show (k : Int) = (t.s + k) % (t.fin.length : Int); rw [hts, Int.zero_add, Int.emod_eq_of_lt (by omega) (by omega)]⟩ (by
      rintro p i x hx ⟨hp, hi⟩
      refine ⟨stepQ_inr hv hp hx, ?_⟩
      have e1 := hbk p i hp hi
      have p1 := hp.1; have p2 := hp.2
      have hr := hv.row p.toNat (by omega)
      show (R.getD i.toNat []).getD x 0 = _
      rw [e1, h.to p.toNat x (by omega) (by omega)]
      rfl) (by
      rintro p i ⟨hp, hi⟩
      have e1 := hbk p i hp hi
      have p1 := hp.1; have p2 := hp.2
      show t.fin.getD p.toNat false = F.getD i.toNat false
      rw [e1, h.fin p.toNat (by omega)])
  have hfe : Full ⟨t.L, k, F, R⟩ := by
    show (TSt _).length = F.length
    rw [← r2.len, hfl]; exact hf
  have hE : IsoE t ⟨t.L, k, F, R⟩ = 0 := by
    unfold IsoE
    rw [if_neg (by rw [pairE_mk hv he rfl]; decide), if_pos ⟨hf, hfe⟩]
  have hB : IsoB t ⟨t.L, k, F, R⟩ = true := by
    unfold IsoB
    rw [decide_eq_true hE, decide_eq_true r1]; rfl
  refine ⟨hE, hB, ?_⟩
  unfold IsoF
  rw [if_pos hB]
  apply List.ext_getElem
  · rw [isoL_len]; simp
  · intro s hs hs'
    rw [isoL_len] at hs
    have hm := full_mem hv hf (q := (s : Int)) ⟨by omega, by omega⟩
    have hg := (r2.get 0 0 (posN (TSt t) (s : Int)) (posN_lt hm)).2
    rw [getD_posN 0 hm] at hg
    have e := isoL_get (a := t) (b := ⟨t.L, k, F, R⟩) hs
    rw [hg] at e
    simpa [List.getD_eq_getElem?_getD, hs, isoL_len] using e
end Go.Sx.Pt
