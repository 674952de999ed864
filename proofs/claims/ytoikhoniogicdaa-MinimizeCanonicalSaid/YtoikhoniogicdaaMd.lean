import Derived.Test.YtoikhoniogicdaaMc
set_option linter.unusedVariables false
set_option linter.unusedSectionVars false
set_option linter.unusedSimpArgs false
namespace Go.Sx
/-! ### the quotient; the minimal automaton -/
/-- the first states of the classes, in ascending order, among the first k states -/
def fstK (cs : List Int) : Nat → List Nat
  | 0 => []
  | k + 1 => if cs.getD k 0 < (fstK cs k).length then fstK cs k else fstK cs k ++ [k]
theorem can_at {cs : List Int} (h : canN cs = cs) {k : Nat} (hk : k < cs.length) : cs.getD k 0 = ((posN (ded (cs.take k)) (cs.getD k 0) : Nat) : Int) := by
  have h1 : (canN (cs.take (k + 1))).getD k 0 = ((posN (ded (cs.take k)) (cs.getD k 0) : Nat) : Int) := by
    have hl : (canN (cs.take k)).length = k := by rw [canN_len, List.length_take]; omega
    rw [canN_take 0 hk]
    simp [List.getD_eq_getElem?_getD, hl]
  have h2 : canN (cs.take (k + 1)) = (canN cs).take (k + 1) := by
    have hpre : ∀ (xs ys : List Int), canN xs = (canN (xs ++ ys)).take xs.length := by
      intro xs ys
      unfold canN
      rw [List.map_append, List.take_left' (by simp)]
      apply List.map_congr_left
      intro y hy
      have : ∃ zs, ded (xs ++ ys) = ded xs ++ zs := by
        unfold ded
        rw [List.foldl_append]
        generalize xs.foldl insN [] = acc
        induction ys generalizing acc with
        | nil => exact ⟨[], by simp⟩
        | cons y ys ih =>
          obtain ⟨zs, e⟩ := ih (insN acc y)
          obtain ⟨zs', e'⟩ := insN_pre acc y
          exact ⟨zs' ++ zs, by rw [List.foldl_cons, e, e', List.append_assoc]⟩
      obtain ⟨zs, e⟩ := this
      rw [e, posN_append zs (ded_mem.2 hy)]
    have := hpre (cs.take (k + 1)) (cs.drop (k + 1))
    rw [List.take_append_drop, List.length_take, Nat.min_eq_left (by omega)] at this
    exact this
  rw [h2, h, getD_take' 0 (by omega)] at h1
  exact h1
theorem fstK_ok {cs : List Int} (h : canN cs = cs) : ∀ k, k ≤ cs.length → (fstK cs k).length = (ded (cs.take k)).length ∧ (∀ c, c < (fstK cs k).length → (fstK cs k).getD c 0 < k ∧ cs.getD ((fstK cs k).getD c 0) 0 = (c : Int))
  | 0, _ => ⟨rfl, fun c hc => by simp [fstK] at hc⟩
  | k + 1, hk => by
    obtain ⟨h1, h2⟩ := fstK_ok h k (by omega)
    have ha := can_at h (k := k) (by omega)
    rw [ded_take 0 (by omega)]
    unfold fstK insN
    by_cases hm : cs.getD k 0 ∈ ded (cs.take k)
    · have := posN_lt hm
      rw [if_pos (by omega), if_pos hm]
      exact ⟨h1, fun c hc => ⟨by have := (h2 c hc).1; omega, (h2 c hc).2⟩⟩
    · have hp := posN_not hm
      rw [if_neg (by omega), if_neg hm]
      refine ⟨by simp [h1], fun c hc => ?_⟩
      rw [List.length_append, List.length_cons, List.length_nil] at hc
      by_cases hc' : c < (fstK cs k).length
      · have e : (fstK cs k ++ [k]).getD c 0 = (fstK cs k).getD c 0 := getD_app 0 hc'
        rw [e]
        exact ⟨by have := (h2 c hc').1; omega, (h2 c hc').2⟩
      · have e : c = (fstK cs k).length := by omega
        have e2 : (fstK cs k ++ [k]).getD c 0 = k := by rw [e]; simp [List.getD_eq_getElem?_getD]
        rw [e2]
        exact ⟨by omega, by omega⟩
theorem fstK_le {cs : List Int} (h : canN cs = cs) {k : Nat} (hk : k < cs.length) : cs.getD k 0 ≤ (fstK cs k).length ∧ 0 ≤ cs.getD k 0 := by
  have ha := can_at h hk
  have h1 := (fstK_ok h k (by omega)).1
  have := posN_le (ded (cs.take k)) (cs.getD k 0)
  omega
theorem fstK_skip {cs : List Int} {k : Nat} (h : cs.getD k 0 < (fstK cs k).length) : fstK cs (k + 1) = fstK cs k := if_pos h
theorem fstK_new {cs : List Int} {k : Nat} (h : ¬ cs.getD k 0 < (fstK cs k).length) : fstK cs (k + 1) = fstK cs k ++ [k] := if_neg h
theorem fstK_bd (cs : List Int) : ∀ k, (fstK cs k).length ≤ k
  | 0 => Nat.le_refl _
  | k + 1 => by
    have := fstK_bd cs k
    unfold fstK
    split
    · omega
    · rw [List.length_append]; simp; omega
def firsts (d : Dfa) : List Nat := fstK (clsD d) d.fin.length
def rowC (d : Dfa) (q : Nat) : List Int := (d.nx.getD q []).map (clsA d)
def quoD (d : Dfa) : Dfa := ⟨d.L, clsA d d.s, (firsts d).map fun q => d.fin.getD q false, (firsts d).map (rowC d)⟩
theorem firsts_ok {d : Dfa} (hv : VD d) : (firsts d).length = (ded (clsD d)).length ∧ (firsts d).length ≤ d.fin.length ∧ ∀ c, c < (firsts d).length → (firsts d).getD c 0 < d.fin.length ∧ clsA d (((firsts d).getD c 0 : Nat) : Int) = (c : Int) := by
  have h := fstK_ok (cls_can hv) (clsD d).length (Nat.le_refl _)
  rw [List.take_length, cls_len] at h
  exact ⟨h.1, fstK_bd _ _, fun c hc => ⟨(h.2 c hc).1, by unfold clsA; rw [Int.toNat_natCast]; exact (h.2 c hc).2⟩⟩
theorem cls_first {d : Dfa} (hv : VD d) {p : Int} (hp : InR d p) : (clsA d p).toNat < (firsts d).length ∧ 0 ≤ clsA d p ∧ InR d (((firsts d).getD (clsA d p).toNat 0 : Nat) : Int) ∧ EqS d (((firsts d).getD (clsA d p).toNat 0 : Nat) : Int) p := by
  obtain ⟨h1, h2⟩ := cls_bd hv hp
  obtain ⟨h3, h4, h5⟩ := firsts_ok hv
  have hlt : (clsA d p).toNat < (firsts d).length := by omega
  obtain ⟨h6, h7⟩ := h5 _ hlt
  have hin : InR d (((firsts d).getD (clsA d p).toNat 0 : Nat) : Int) := ⟨by omega, by omega⟩
  exact ⟨hlt, h1, hin, (cls_eq hv hin hp).1 (by rw [h7]; omega)⟩
theorem quo_n (d : Dfa) : (quoD d).fin.length = (firsts d).length ∧ (quoD d).nx.length = (firsts d).length := by simp [quoD]
theorem rowC_get {d : Dfa} (hv : VD d) {q : Nat} (hq : q < d.fin.length) {x : Nat} (hx : (x : Int) < d.L) : (rowC d q).getD x 0 = clsA d (stepQ d (q : Int) x) := by
  have hr := hv.row q hq
  have hlt : x < (d.nx.getD q []).length := by omega
  unfold rowC stepQ
  rw [Int.toNat_natCast]
  generalize d.nx.getD q [] = r at *
  simp [List.getD_eq_getElem?_getD, hlt]
theorem quo_row {d : Dfa} {c : Nat} (hc : c < (firsts d).length) : (quoD d).nx.getD c [] = rowC d ((firsts d).getD c 0) := by
  simp [quoD, List.getD_eq_getElem?_getD, hc]
theorem quo_vd {d : Dfa} (hv : VD d) : VD (quoD d) := by
  obtain ⟨h3, h4, h5⟩ := firsts_ok hv
  obtain ⟨n1, n2⟩ := quo_n d
  have hs := cls_first hv (p := d.s) hv.s
  have hrl : ∀ i, i < (firsts d).length → ((rowC d ((firsts d).getD i 0)).length : Int) = d.L := fun i hi => by
    unfold rowC; rw [List.length_map]; exact hv.row _ (h5 i hi).1
  refine ⟨hv.L, by rw [n1]; have := hv.n; omega, by rw [n1, n2], ⟨hs.2.1, by rw [n1]; have := hs.1; have := hs.2.1; show clsA d d.s < _; omega⟩, ?_, ?_⟩
  · intro i hi
    rw [n1] at hi
    rw [quo_row hi]; exact hrl i hi
  · intro i x hi hx
    rw [n1] at hi
    rw [quo_row hi] at hx ⊢
    have hr := hrl i hi
    have hx' : (x : Int) < d.L := by omega
    rw [rowC_get hv (h5 i hi).1 hx', n1]
    have := cls_first hv (stepQ_inr hv (q := (((firsts d).getD i 0 : Nat) : Int)) ⟨by omega, by have := (h5 i hi).1; omega⟩ hx')
    have h1 := this.1; have h2 := this.2.1
    omega
theorem EqS.step {d : Dfa} (hv : VD d) {p q : Int} (h : EqS d p q) {x : Nat} (hx : (x : Int) < d.L) : EqS d (stepQ d p x) (stepQ d q x) := by
  have hL := hv.L
  have h1 := h.run (u := [ltr x]) (okw_cons.2 ⟨okB_ltr hL hx, Okw.nil⟩)
  have e : ∀ r, runI d r [ltr x] = stepQ d r x := fun r => by
    show stepI d r (ltr x) = _
    exact stepI_ltr (by omega)
  rw [e, e] at h1; exact h1
theorem quo_step {d : Dfa} (hv : VD d) {p : Int} (hp : InR d p) {x : Nat} (hx : (x : Int) < d.L) : stepQ (quoD d) (clsA d p) x = clsA d (stepQ d p x) := by
  obtain ⟨h1, h2, h3, h4⟩ := cls_first hv hp
  show ((quoD d).nx.getD (clsA d p).toNat []).getD x 0 = _
  have hlt : (firsts d).getD (clsA d p).toNat 0 < d.fin.length := by have := h3.2; omega
  rw [quo_row h1, rowC_get hv hlt hx]
  exact (cls_eq hv (stepQ_inr hv h3 hx) (stepQ_inr hv hp hx)).2 (h4.step hv hx)
theorem quo_fin {d : Dfa} (hv : VD d) {p : Int} (hp : InR d p) : finQ (quoD d) (clsA d p) = finQ d p := by
  obtain ⟨h1, h2, h3, h4⟩ := cls_first hv hp
  have h5 : finQ d (((firsts d).getD (clsA d p).toNat 0 : Nat) : Int) = finQ d p := h4 [] Okw.nil
  rw [← h5]
  show (quoD d).fin.getD (clsA d p).toNat false = finQ d _
  unfold finQ quoD
  rw [Int.toNat_natCast]
  simp [List.getD_eq_getElem?_getD, h1]
theorem quo_run {d : Dfa} (hv : VD d) : ∀ {l : List UInt8} {p : Int}, InR d p → Okw d l → runI (quoD d) (clsA d p) l = clsA d (runI d p l)
  | [], p, hp, _ => rfl
  | c :: l, p, hp, h => by
    obtain ⟨h1, h2⟩ := okw_cons.1 h
    have hx := okB_num h1
    rw [runI_cons, runI_cons, quo_step hv hp hx]
    exact quo_run hv (stepQ_inr hv hp hx) h2
theorem quo_lng {d : Dfa} (hv : VD d) : Lng (quoD d) d := fun l hl => by
  have hl' : Okw d l := hl
  show finQ (quoD d) (runI (quoD d) (clsA d d.s) l) = _
  rw [quo_run hv hv.s hl', quo_fin hv (runI_inr hv l d.s hv.s hl')]
theorem Rdc.of_lng {a b : Dfa} (hL : a.L = b.L) (h : Lng a b) (hb : ∀ u v, Okw a u → Okw a v → EqS b (runI b b.s u) (runI b b.s v) → runI a a.s u = runI a a.s v) : Rdc a := fun u v hu hv he => hb u v hu hv ((lng_eqs hL h hu hv).1 he)
theorem quo_rdc {d : Dfa} (hv : VD d) : Rdc (quoD d) := Rdc.of_lng (a := quoD d) (b := d) rfl (quo_lng hv) (fun u v hu hv' he => by
  show runI (quoD d) (clsA d d.s) u = runI (quoD d) (clsA d d.s) v
  have hu' : Okw d u := hu
  have hv'' : Okw d v := hv'
  rw [quo_run hv hv.s hu', quo_run hv hv.s hv'']
  exact (cls_eq hv (runI_inr hv u d.s hv.s hu') (runI_inr hv v d.s hv.s hv'')).2 he)
def minD (d : Dfa) : Dfa := trimD (quoD d)
def MinV (d : Dfa) : Dfa := if VD d then minD d else nilD
theorem min_vd {d : Dfa} (hv : VD d) : VD (minD d) := trim_vd (quo_vd hv)
theorem min_lng {d : Dfa} (hv : VD d) : Lng (minD d) d := (trim_lng (quo_vd hv)).trans (b := quoD d) rfl (quo_lng hv)
/-- what is reduced and has the language is the minimal automaton when it is trimmed -/
theorem min_of {m d : Dfa} (hm : VD m) (hv : VD d) (hL : m.L = d.L) (h : Lng m d) (hr : Rdc m) : trimD m = minD d :=
  trim_unique hm (quo_vd hv) hL (h.trans hL (Lng.symm (a := quoD d) rfl (quo_lng hv))) hr (quo_rdc hv)
theorem min_eq {a b : Dfa} (ha : VD a) (hb : VD b) (hL : a.L = b.L) (h : Lng a b) : minD a = minD b :=
  min_of (quo_vd ha) hb hL ((quo_lng ha).trans (b := a) rfl h) (quo_rdc ha)
/-- as the program finds it -/
theorem min_trim {d : Dfa} (hv : VD d) : trimD (quoD (trimD d)) = minD d := min_eq (trim_vd hv) hv rfl (trim_lng hv)
theorem min_min {d : Dfa} (hv : VD d) : minD (minD d) = minD d := min_eq (min_vd hv) hv rfl (min_lng hv)
theorem min_trimmed {d : Dfa} (hv : VD d) : trimD (minD d) = minD d := trim_trim (quo_vd hv)
theorem min_acc {d : Dfa} (hv : VD d) (l : List UInt8) : AccV (minD d) l = AccV d l := (min_lng hv).acc (min_vd hv) hv rfl l
theorem min_len {d : Dfa} (hv : VD d) : (minD d).fin.length ≤ d.fin.length := by
  have h1 := (TSt_ok (quo_vd hv)).2.2.1
  have h2 := (firsts_ok hv).2.1
  rw [(quo_n d).1] at h1
  have : (minD d).fin.length = (TSt (quoD d)).length := by simp [minD, trimD]
  omega
theorem min_rdc {d : Dfa} (hv : VD d) : Rdc (minD d) := Rdc.of_lng (a := minD d) (b := quoD d) rfl (trim_lng (quo_vd hv)) (fun u v hu hv' he => by
  have hu' : Okw (quoD d) u := hu
  have hv'' : Okw (quoD d) v := hv'
  have e := quo_rdc hv u v hu' hv'' he
  have hq := quo_vd hv
  have h1 := (trim_runI hq (tst_start hq).1 hu').1
  have h2 := (trim_runI hq (tst_start hq).1 hv'').1
  show runI (trimD (quoD d)) (trimD (quoD d)).s u = runI (trimD (quoD d)) (trimD (quoD d)).s v
  rw [trim_start hq, h1, h2, e])
theorem min_red {d : Dfa} (hv : VD d) {p q : Int} (hp : InR (minD d) p) (hq : InR (minD d) q) (h : EqS (minD d) p q) : p = q := by
  obtain ⟨u, hu, e1, _⟩ := trim_reach (quo_vd hv) hp
  obtain ⟨v, hv', e2, _⟩ := trim_reach (quo_vd hv) hq
  have := min_rdc hv u v hu hv' (by
    show EqS (minD d) (runI (trimD (quoD d)) 0 u) (runI (trimD (quoD d)) 0 v)
    rw [e1, e2]; exact h)
  have e3 : runI (trimD (quoD d)) 0 u = runI (trimD (quoD d)) 0 v := this
  rw [e1, e2] at e3; exact e3
theorem min_cls {d : Dfa} (hv : VD d) : clsD (minD d) = (List.range (minD d).fin.length).map fun (i : Nat) => (i : Int) := by
  have hm := min_vd hv
  have hl := cls_len (minD d)
  rw [← cls_can hm]
  have h1 := (canN_ker (xs := clsD (minD d)) (ys := List.range (minD d).fin.length) 0 0 (by rw [hl, List.length_range]) (fun i j hi hj => by
    rw [hl] at hi hj
    have h2 := cls_eq hm (p := (i : Int)) (q := (j : Int)) ⟨by omega, by omega⟩ ⟨by omega, by omega⟩
    unfold clsA at h2
    rw [Int.toNat_natCast, Int.toNat_natCast] at h2
    rw [h2]
    simp only [List.getD_eq_getElem?_getD, List.getElem?_range hi, List.getElem?_range hj, Option.getD_some]
    constructor
    · intro h
      have := min_red hv (p := (i : Int)) (q := (j : Int)) ⟨by omega, by omega⟩ ⟨by omega, by omega⟩ h
      omega
    · rintro rfl; exact EqS.refl _ _)).1
  rw [h1]
  have h3 : ∀ n, ded (List.range n) = List.range n := by
    intro n
    induction n with
    | zero => rfl
    | succ n ih => rw [List.range_succ, ded_snoc, ih]; unfold insN; rw [if_neg (by simp)]
  unfold canN
  rw [h3]
  apply List.map_congr_left
  intro i hi
  rw [List.mem_range] at hi
  have := posN_at 0 (List.nodup_range (n := (minD d).fin.length)) (i := i) (by rw [List.length_range]; exact hi)
  rw [List.getD_eq_getElem?_getD, List.getElem?_range hi] at this
  have h4 : posN (List.range (minD d).fin.length) i = i := this
  rw [h4]
end Go.Sx
