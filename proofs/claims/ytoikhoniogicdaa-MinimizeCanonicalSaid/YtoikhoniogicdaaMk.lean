import Derived.Test.YtoikhoniogicdaaMf
set_option linter.unusedVariables false
set_option linter.unusedSectionVars false
set_option linter.unusedSimpArgs false
namespace Go.Sx
/-! ### an automaton that is turned and doubled has the same minimal automaton -/
theorem rel_lng {e d : Dfa} (he : VD e) (hd : VD d) (hL : e.L = d.L) (Rel : Int → Int → Prop) (h0 : Rel e.s d.s) (hf : ∀ i q, InR e i → InR d q → Rel i q → finQ e i = finQ d q)
    (hs : ∀ i q (x : Nat), InR e i → InR d q → (x : Int) < d.L → Rel i q → Rel (stepQ e i x) (stepQ d q x)) : Lng e d := by
  have key : ∀ (l : List UInt8) (i q : Int), InR e i → InR d q → Rel i q → Okw e l → finQ e (runI e i l) = finQ d (runI d q l) := by
    intro l
    induction l with
    | nil => intro i q hi hq hr _; exact hf i q hi hq hr
    | cons c l ih =>
      intro i q hi hq hr hl
      obtain ⟨h4, h5⟩ := okw_cons.1 hl
      have hx := okB_num h4
      rw [runI_cons, runI_cons]
      exact ih _ _ (stepQ_inr he hi hx) (stepQ_inr hd hq (by rw [← hL]; exact hx)) (hs i q _ hi hq (by rw [← hL]; exact hx) hr) h5
  exact fun l hl => key l e.s d.s he.s hd.s h0 hl
/-- where state q of copy c lies -/
def plc (n k q c : Nat) : Nat := (q + k) % n + c * n
theorem plc_lt {n k q c : Nat} (hn : 0 < n) (hc : c < 2) : plc n k q c < 2 * n := by
  unfold plc
  have := Nat.mod_lt (q + k) hn
  rcases Nat.lt_or_ge c 1 with h | h
  · rw [show c = 0 by omega]; omega
  · rw [show c = 1 by omega]; omega
theorem plc_ex {n k i : Nat} (hn : 0 < n) (hk : k < n) (hi : i < 2 * n) : ∃ q c, q < n ∧ c < 2 ∧ i = plc n k q c := by
  have hd := Nat.div_add_mod i n
  have hm := Nat.mod_lt i hn
  refine ⟨(i % n + n - k) % n, i / n, Nat.mod_lt _ hn, by rw [Nat.div_lt_iff_lt_mul hn]; exact hi, ?_⟩
  unfold plc
  have e : ((i % n + n - k) % n + k) % n = i % n := by
    rw [Nat.mod_add_mod, show i % n + n - k + k = i % n + n by omega, Nat.add_mod_right, Nat.mod_mod]
  rw [e, Nat.mul_comm]
  omega
theorem plc_mod {n k q c : Nat} : plc n k q c % n = (q + k) % n := by
  unfold plc
  rw [Nat.add_mul_mod_self_right, Nat.mod_mod]
structure Turned (d : Dfa) (k : Nat) (F : List Bool) (R : List (List Int)) : Prop where
  fl : F.length = 2 * d.fin.length
  rl : R.length = 2 * d.fin.length
  fin : ∀ q c, q < d.fin.length → c < 2 → F.getD (plc d.fin.length k q c) false = d.fin.getD q false
  row : ∀ q c, q < d.fin.length → c < 2 → (R.getD (plc d.fin.length k q c) []).length = (d.nx.getD q []).length
  to : ∀ q c (x : Nat), q < d.fin.length → c < 2 → x < (d.nx.getD q []).length → 0 ≤ (R.getD (plc d.fin.length k q c) []).getD x 0 ∧ (R.getD (plc d.fin.length k q c) []).getD x 0 < 2 * d.fin.length ∧ (R.getD (plc d.fin.length k q c) []).getD x 0 % d.fin.length = ((d.nx.getD q []).getD x 0 + k) % d.fin.length
theorem Turned.vd {d : Dfa} (hv : VD d) {k : Nat} {F : List Bool} {R : List (List Int)} (h : Turned d k F R) (hk : k < d.fin.length) (hn : 2 * d.fin.length ≤ 512) : VD ⟨d.L, (d.s + k) % d.fin.length, F, R⟩ := by
  have hs := hv.s
  have h0 : 0 < d.fin.length := by omega
  have hfl := h.fl
  have hrl := h.rl
  have hm1 := Int.emod_nonneg (d.s + k) (b := (d.fin.length : Int)) (by omega)
  have hm2 := Int.emod_lt_of_pos (d.s + k) (b := (d.fin.length : Int)) (by omega)
  refine ⟨hv.L, by show F.length ≤ 512; omega, by show R.length = F.length; omega, ⟨hm1, by show (d.s + k) % d.fin.length < (F.length : Int); omega⟩, ?_, ?_⟩
  · intro i hi
    obtain ⟨q, c, hq, hc, rfl⟩ := plc_ex h0 hk (show i < 2 * d.fin.length by rw [← hfl]; exact hi)
    show (((R.getD _ []).length : Nat) : Int) = d.L
    rw [h.row q c hq hc]
    exact hv.row q hq
  · intro i x hi hx
    obtain ⟨q, c, hq, hc, rfl⟩ := plc_ex h0 hk (show i < 2 * d.fin.length by rw [← hfl]; exact hi)
    have hx' : x < (R.getD (plc d.fin.length k q c) []).length := hx
    rw [h.row q c hq hc] at hx'
    have := h.to q c x hq hc hx'
    refine ⟨this.1, ?_⟩
    show _ < (F.length : Int)
    rw [hfl]
    have := this.2.1
    push_cast
    exact this
theorem Turned.min {d : Dfa} (hv : VD d) {k : Nat} {F : List Bool} {R : List (List Int)} (h : Turned d k F R) (hk : k < d.fin.length) (hn : 2 * d.fin.length ≤ 512) : minD ⟨d.L, (d.s + k) % d.fin.length, F, R⟩ = minD d := by
  have he := h.vd hv hk hn
  have hs := hv.s
  have h0 : 0 < d.fin.length := by omega
  have hfl := h.fl
  have back : ∀ i q, InR ⟨d.L, (d.s + k) % d.fin.length, F, R⟩ i → InR d q → i % d.fin.length = (q + k) % d.fin.length → ∃ c, c < 2 ∧ i.toNat = plc d.fin.length k q.toNat c := by
    intro i q hi hq hr
    have i1 := hi.1
    have i2 : i < (F.length : Int) := hi.2
    have q1 := hq.1
    have q2 := hq.2
    obtain ⟨q', c, hq', hc, e⟩ := plc_ex h0 hk (show i.toNat < 2 * d.fin.length by omega)
    have hm : i.toNat % d.fin.length = (q.toNat + k) % d.fin.length := by
      have h1 : ((i.toNat % d.fin.length : Nat) : Int) = (((q.toNat + k) % d.fin.length : Nat) : Int) := by
        rw [Int.natCast_emod, Int.natCast_emod, Int.natCast_add, Int.toNat_of_nonneg i1, Int.toNat_of_nonneg q1]
        exact hr
      exact Int.ofNat.inj h1
    rw [e, plc_mod] at hm
    refine ⟨c, hc, ?_⟩
    rw [e]
    unfold plc
    rw [hm]
  refine min_eq he hv rfl (rel_lng he hv rfl (fun i q => i % d.fin.length = (q + k) % d.fin.length) (Int.emod_emod_of_dvd _ (Int.dvd_refl _)) ?_ ?_)
  · intro i q hi hq hr
    obtain ⟨c, hc, e⟩ := back i q hi hq hr
    show F.getD i.toNat false = d.fin.getD q.toNat false
    have q1 := hq.1
    have q2 := hq.2
    rw [e]
    exact h.fin q.toNat c (by omega) hc
  · intro i q x hi hq hx hr
    obtain ⟨c, hc, e⟩ := back i q hi hq hr
    have q1 := hq.1
    have q2 := hq.2
    have hrw := hv.row q.toNat (by omega)
    show (R.getD i.toNat []).getD x 0 % (d.fin.length : Int) = ((d.nx.getD q.toNat []).getD x 0 + k) % d.fin.length
    rw [e]
    exact (h.to q.toNat c x (by omega) hc (by omega)).2.2
end Go.Sx
