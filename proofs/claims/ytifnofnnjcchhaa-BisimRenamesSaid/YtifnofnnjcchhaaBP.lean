import Derived.Test.YtifnofnnjcchhaaMP
import Derived.Test.YtifnofnnjcchhaaPP
set_option linter.unusedVariables false
set_option linter.unusedSectionVars false
set_option linter.unusedSimpArgs false
namespace Go.Sx.Pt
/-! ### uniting the states of two automata -/
def sh (m : Nat) (p : Int × Int) : Int × Int := (p.1, (m : Int) + p.2)
def UR (m : Nat) (qs : List (Int × Int)) : Nat → Nat := ufs (qs.map (sh m))
abbrev USt := List (Int × Int) × Bool
def meetS (a b : Dfa) (st : USt) (p : Int × Int) : USt :=
  if UR a.fin.length st.1 p.1.toNat = UR a.fin.length st.1 ((a.fin.length : Int) + p.2).toNat then st else (st.1 ++ [p], st.2 && (finQ a p.1 == finQ b p.2))
def uX (a b : Dfa) (p : Int × Int) (st : USt) : Nat → USt
  | 0 => st
  | k + 1 => meetS a b (uX a b p st k) (stepP a b p k)
/-- the pairs that words lead to -/
def psL (a b : Dfa) : List (Int × Int) := (PSt a b).map (sh a.fin.length)
/-- the finest partition that is closed -/
def leastL (a b : Dfa) : List Int := fromB ((a.fin.length : Int) + b.fin.length) (psL a b)
theorem ur_gen (m : Nat) (qs : List (Int × Int)) (k l : Nat) : UR m qs k = UR m qs l ↔ Gen (PR (qs.map (sh m))) k l := ufs_gen _ k l
theorem ur_mono {m : Nat} {qs : List (Int × Int)} (p : Int × Int) {k l : Nat} (h : UR m qs k = UR m qs l) : UR m (qs ++ [p]) k = UR m (qs ++ [p]) l := by
  rw [ur_gen] at h ⊢
  refine h.mono fun x y hxy => Gen.of ?_
  rw [List.map_append]
  obtain ⟨q, hq, h1⟩ := hxy
  exact ⟨q, List.mem_append_left _ hq, h1⟩
theorem ur_mem {m : Nat} {qs : List (Int × Int)} {p : Int × Int} (h : p ∈ qs) : UR m qs p.1.toNat = UR m qs ((m : Int) + p.2).toNat := by
  rw [ur_gen]
  exact Gen.of ⟨sh m p, List.mem_map_of_mem h, rfl, rfl⟩
theorem meet_mono (a b : Dfa) (st : USt) (p : Int × Int) {k l : Nat} (h : UR a.fin.length st.1 k = UR a.fin.length st.1 l) : UR a.fin.length (meetS a b st p).1 k = UR a.fin.length (meetS a b st p).1 l := by
  unfold meetS; split
  · exact h
  · exact ur_mono p h
theorem meet_unites (a b : Dfa) (st : USt) (p : Int × Int) : UR a.fin.length (meetS a b st p).1 p.1.toNat = UR a.fin.length (meetS a b st p).1 ((a.fin.length : Int) + p.2).toNat := by
  unfold meetS; split
  · assumption
  · exact ur_mem (by simp)
theorem meet_pre (a b : Dfa) (st : USt) (p : Int × Int) : ∃ ys, (meetS a b st p).1 = st.1 ++ ys := by
  unfold meetS; split
  · exact ⟨[], by simp⟩
  · exact ⟨[p], rfl⟩
structure UInv (a b : Dfa) (i k : Nat) (st : USt) : Prop where
  reach : ∀ p ∈ st.1, ∃ l, Okw a l ∧ p = (runI a a.s l, runI b b.s l)
  nd : st.1.Nodup
  same : st.2 = true ↔ ∀ p ∈ st.1, finQ a p.1 = finQ b p.2
  start : UR a.fin.length st.1 a.s.toNat = UR a.fin.length st.1 ((a.fin.length : Int) + b.s).toNat
  clo : ∀ j x : Nat, j < st.1.length → (x : Int) < a.L → (j < i ∨ (j = i ∧ x < k)) → UR a.fin.length st.1 (stepP a b (st.1.getD j (0, 0)) x).1.toNat = UR a.fin.length st.1 ((a.fin.length : Int) + (stepP a b (st.1.getD j (0, 0)) x).2).toNat
theorem reach_in {a b : Dfa} (ha : VD a) (hb : VD b) (hL : a.L = b.L) {l : List UInt8} (hl : Okw a l) : (runI a a.s l, runI b b.s l) ∈ univ2 a.fin.length b.fin.length := by
  rw [mem_univ2]
  exact ⟨runI_inr ha l _ ha.s hl, runI_inr hb l _ hb.s ((okw_L hL).1 hl)⟩
theorem UInv.len {a b : Dfa} (ha : VD a) (hb : VD b) (hL : a.L = b.L) {i k : Nat} {st : USt} (h : UInv a b i k st) : st.1.length ≤ a.fin.length * b.fin.length := by
  rw [← univ2_len]
  refine nodup_sub_len h.nd fun y hy => ?_
  obtain ⟨l, hl, rfl⟩ := h.reach y hy
  exact reach_in ha hb hL hl
theorem UInv.bd {a b : Dfa} (ha : VD a) (hb : VD b) (hL : a.L = b.L) {i k : Nat} {st : USt} (h : UInv a b i k st) {p : Int × Int} (hp : p ∈ st.1) : (0 ≤ p.1 ∧ p.1 < a.fin.length) ∧ (0 ≤ p.2 ∧ p.2 < b.fin.length) := by
  obtain ⟨l, hl, rfl⟩ := h.reach p hp
  exact mem_univ2.1 (reach_in ha hb hL hl)
theorem UInv.meet {a b : Dfa} (ha : VD a) {i k : Nat} {st : USt} (h : UInv a b i k st) (hi : i < st.1.length) (hk : (k : Int) < a.L) : UInv a b i (k + 1) (meetS a b st (stepP a b (st.1.getD i (0, 0)) k)) := by
  have hL := ha.L
  obtain ⟨l, hl, e⟩ := h.reach _ (getD_mem (d := (0, 0)) hi)
  have hr : ∃ l, Okw a l ∧ stepP a b (st.1.getD i (0, 0)) k = (runI a a.s l, runI b b.s l) := by
    refine ⟨l ++ [ltr k], okw_snoc ha hl hk, ?_⟩
    rw [e]
    show (stepQ a _ k, stepQ b _ k) = _
    rw [runI_snoc1 _ _ _ (by omega), runI_snoc1 _ _ _ (by omega)]
  generalize hp : stepP a b (st.1.getD i (0, 0)) k = p at *
  have hm := fun u v => @meet_mono a b st p u v
  have hu := meet_unites a b st p
  obtain ⟨ys, hpre⟩ := meet_pre a b st p
  have hgd : ∀ j, j < st.1.length → (meetS a b st p).1.getD j (0, 0) = st.1.getD j (0, 0) := fun j hj => by rw [hpre]; exact getD_app _ hj
  refine ⟨?_, ?_, ?_, hm _ _ h.start, ?_⟩
  · intro q hq
    unfold meetS at hq; split at hq
    · exact h.reach q hq
    · simp only [List.mem_append, List.mem_singleton] at hq
      rcases hq with hq | rfl
      · exact h.reach q hq
      · exact hr
  · unfold meetS; split
    · exact h.nd
    · rename_i hne
      simp only []
      rw [List.nodup_append]
      refine ⟨h.nd, by simp, fun x hx y hy => ?_⟩
      rw [List.mem_singleton] at hy
      subst hy
      rintro rfl
      exact hne (ur_mem hx)
  · unfold meetS; split
    · exact h.same
    · simp only [Bool.and_eq_true, beq_iff_eq, h.same, List.mem_append, List.mem_singleton]
      constructor
      · rintro ⟨h1, h2⟩ q (hq | rfl)
        · exact h1 q hq
        · exact h2
      · exact fun h1 => ⟨fun q hq => h1 q (.inl hq), h1 p (.inr rfl)⟩
  · intro j x hj hx hjx
    have hjl : j < st.1.length := by omega
    rw [hgd j hjl]
    rcases hjx with h1 | ⟨h1, h2⟩
    · exact hm _ _ (h.clo j x hjl hx (.inl h1))
    · rcases Nat.lt_or_eq_of_le (Nat.le_of_lt_succ h2) with h3 | h3
      · exact hm _ _ (h.clo j x hjl hx (.inr ⟨h1, h3⟩))
      · subst h1; subst h3; rw [hp]; exact hu
theorem UInv.next {a b : Dfa} {i k : Nat} {st : USt} (h : UInv a b i k st) (hk : a.L ≤ k) : UInv a b (i + 1) 0 st :=
  ⟨h.reach, h.nd, h.same, h.start, fun j x hj hx hjx => h.clo j x hj hx (by rcases hjx with h1 | h1; (by_cases e : j = i; (exact .inr ⟨e, by omega⟩); exact .inl (by omega)); omega)⟩
theorem UInv.init {a b : Dfa} (ha : VD a) (hb : VD b) : meetS a b ([], true) (a.s, b.s) = ([(a.s, b.s)], finQ a a.s == finQ b b.s) ∧ UInv a b 0 0 (meetS a b ([], true) (a.s, b.s)) := by
  have h1 := ha.s
  have h2 := hb.s
  have e : meetS a b ([], true) (a.s, b.s) = ([(a.s, b.s)], finQ a a.s == finQ b b.s) := by
    unfold meetS
    rw [if_neg (by show ¬ a.s.toNat = ((a.fin.length : Int) + b.s).toNat; omega)]
    simp
  refine ⟨e, ⟨?_, ?_, ?_, meet_unites a b _ _, fun j x hj hx hjx => by omega⟩⟩
  · rw [e]; intro p hp; simp at hp; subst hp; exact ⟨[], Okw.nil, rfl⟩
  · rw [e]; simp
  · rw [e]; simp
/-! the points of both -/
def sB (a b : Dfa) (x : Nat) (u : Nat) : Nat := if u < a.fin.length then (stepQ a (u : Int) x).toNat else a.fin.length + (stepQ b ((u : Int) - a.fin.length) x).toNat
def fB (a b : Dfa) (u : Nat) : Bool := if u < a.fin.length then finQ a (u : Int) else finQ b ((u : Int) - a.fin.length)
theorem sB_l {a b : Dfa} {x : Nat} {p : Int} (hp : InR a p) : sB a b x p.toNat = (stepQ a p x).toNat := by
  have h1 := hp.1; have h2 := hp.2
  unfold sB; rw [if_pos (by omega), Int.toNat_of_nonneg h1]
theorem sB_r {a b : Dfa} (hb : VD b) {x : Nat} (hx : (x : Int) < b.L) {p : Int} (hp : InR b p) : sB a b x ((a.fin.length : Int) + p).toNat = ((a.fin.length : Int) + stepQ b p x).toNat := by
  have h1 := hp.1; have h2 := hp.2
  have h3 := (stepQ_inr hb hp hx).1
  unfold sB; rw [if_neg (by omega), Int.toNat_of_nonneg (by omega), show (a.fin.length : Int) + p - a.fin.length = p by omega]; omega
theorem fB_l {a b : Dfa} {p : Int} (hp : InR a p) : fB a b p.toNat = finQ a p := by
  have h1 := hp.1; have h2 := hp.2
  unfold fB; rw [if_pos (by omega), Int.toNat_of_nonneg h1]
theorem fB_r {a b : Dfa} {p : Int} (hp : InR b p) : fB a b ((a.fin.length : Int) + p).toNat = finQ b p := by
  have h1 := hp.1; have h2 := hp.2
  unfold fB; rw [if_neg (by omega), Int.toNat_of_nonneg (by omega), show (a.fin.length : Int) + p - a.fin.length = p by omega]
/-- a relation of points that relates the start states and is closed -/
structure Clo (a b : Dfa) (K : Nat → Nat → Prop) : Prop where
  eqv : Eqv K
  start : K a.s.toNat ((a.fin.length : Int) + b.s).toNat
  step : ∀ u v (x : Nat), (x : Int) < a.L → u < a.fin.length + b.fin.length → v < a.fin.length + b.fin.length → K u v → K (sB a b x u) (sB a b x v)
theorem Clo.word {a b : Dfa} (ha : VD a) (hb : VD b) (hL : a.L = b.L) {K : Nat → Nat → Prop} (h : Clo a b K) : ∀ (l : List UInt8) (p q : Int), InR a p → InR b q → K p.toNat ((a.fin.length : Int) + q).toNat → Okw a l → K (runI a p l).toNat ((a.fin.length : Int) + runI b q l).toNat := by
  intro l
  induction l with
  | nil => intro p q _ _ h1 _; exact h1
  | cons c l ih =>
    intro p q hp hq h1 hl
    obtain ⟨h4, h5⟩ := okw_cons.1 hl
    have hx := okB_num h4
    rw [runI_cons, runI_cons]
    have hx' : ((((c.toNat : Int) - 97).toNat : Nat) : Int) < b.L := by rw [← hL]; exact hx
    refine ih _ _ (stepQ_inr ha hp hx) (stepQ_inr hb hq hx') ?_ h5
    have p1 := hp.1; have p2 := hp.2; have q1 := hq.1; have q2 := hq.2
    have := h.step _ _ _ hx (by omega) (by omega) h1
    rw [sB_l hp, sB_r hb hx' hq] at this
    exact this
theorem psL_mem {a b : Dfa} (ha : VD a) (hb : VD b) (hL : a.L = b.L) (p : Int × Int) : p ∈ PSt a b ↔ ∃ l, Okw a l ∧ p = (runI a a.s l, runI b b.s l) := by
  have hv := ha.L
  have e : ((a.L.toNat : Nat) : Int) = a.L := by omega
  have hs := start_univ2 ha hb
  have hc := step_univ2 ha hb hL
  constructor
  · intro hp
    have hlt := posN_lt hp
    have hg := getD_posN (0, 0) hp
    obtain ⟨g1, g2⟩ := gen_fold (z := (0, 0)) (by omega) hs hc hlt
    rw [e] at g2
    refine ⟨_, g2, ?_⟩
    rw [foldW_stepP] at g1
    exact hg.symm.trans g1.symm
  · rintro ⟨l, hl, rfl⟩
    have := (gen_run (g := fun _ => true) (z := (0, 0)) a.L hs hc l (a.s, b.s) ((gen_start _).2) (by rw [e]; exact hl)).2
    rw [foldW_stepP] at this
    exact this
theorem ps_in {a b : Dfa} (ha : VD a) (hb : VD b) (hL : a.L = b.L) {p : Int × Int} (hp : p ∈ PSt a b) : InR a p.1 ∧ InR b p.2 := by
  obtain ⟨l, hl, rfl⟩ := (psL_mem ha hb hL p).1 hp
  exact mem_univ2.1 (reach_in ha hb hL hl)
theorem ps_may {a b : Dfa} (ha : VD a) (hb : VD b) (hL : a.L = b.L) : mayP ((a.fin.length : Int) + b.fin.length) (psL a b) := by
  have h1 := ha.n
  have h2 := hb.n
  refine ⟨by omega, fun p hp => ?_⟩
  unfold psL at hp
  rw [List.mem_map] at hp
  obtain ⟨q, hq, rfl⟩ := hp
  obtain ⟨⟨p1, p2⟩, q1, q2⟩ := ps_in ha hb hL hq
  unfold okp sh; dsimp only
  omega
/-- the finest closed relation -/
theorem gen_clo {a b : Dfa} (ha : VD a) (hb : VD b) (hL : a.L = b.L) : Clo a b (Gen (PR (psL a b))) := by
  refine ⟨Gen.eqv _, Gen.of ⟨sh a.fin.length (a.s, b.s), List.mem_map_of_mem ((psL_mem ha hb hL _).2 ⟨[], Okw.nil, rfl⟩), rfl, rfl⟩, ?_⟩
  intro u v x hx _ _ h
  have hE : Eqv (fun u v => Gen (PR (psL a b)) (sB a b x u) (sB a b x v)) := ⟨fun u => (Gen.eqv _).refl _, fun u v h => (Gen.eqv _).symm _ _ h, fun u v w h k => (Gen.eqv _).trans _ _ _ h k⟩
  refine Gen.le hE ?_ h
  rintro u v ⟨p, hp, rfl, rfl⟩
  unfold psL at hp
  rw [List.mem_map] at hp
  obtain ⟨q, hq, rfl⟩ := hp
  obtain ⟨i1, i2⟩ := ps_in ha hb hL hq
  show Gen _ (sB a b x q.1.toNat) (sB a b x ((a.fin.length : Int) + q.2).toNat)
  rw [sB_l i1, sB_r hb (by rw [← hL]; exact hx) i2]
  obtain ⟨l, hl, e⟩ := (psL_mem ha hb hL _).1 hq
  have hv := ha.L
  refine Gen.of ⟨sh a.fin.length (stepP a b q x), List.mem_map_of_mem ((psL_mem ha hb hL _).2 ⟨l ++ [ltr x], okw_snoc ha hl hx, ?_⟩), rfl, rfl⟩
  rw [e]
  show (stepQ a _ x, stepQ b _ x) = _
  rw [runI_snoc1 _ _ _ (by omega), runI_snoc1 _ _ _ (by omega)]
theorem Clo.ge {a b : Dfa} (ha : VD a) (hb : VD b) (hL : a.L = b.L) {K : Nat → Nat → Prop} (h : Clo a b K) {u v : Nat} (hg : Gen (PR (psL a b)) u v) : K u v := by
  refine Gen.le h.eqv ?_ hg
  rintro u v ⟨p, hp, rfl, rfl⟩
  unfold psL at hp
  rw [List.mem_map] at hp
  obtain ⟨q, hq, rfl⟩ := hp
  obtain ⟨l, hl, rfl⟩ := (psL_mem ha hb hL _).1 hq
  exact h.word ha hb hL l _ _ ha.s hb.s h.start hl
/-- closed, and alike on final states: the same words -/
theorem Clo.lng {a b : Dfa} (ha : VD a) (hb : VD b) (hL : a.L = b.L) {K : Nat → Nat → Prop} (h : Clo a b K) (hf : ∀ u v, u < a.fin.length + b.fin.length → v < a.fin.length + b.fin.length → K u v → fB a b u = fB a b v) : Lng a b := by
  intro l hl
  have h1 := h.word ha hb hL l _ _ ha.s hb.s h.start hl
  obtain ⟨⟨i1, i2⟩, i3, i4⟩ := mem_univ2.1 (reach_in ha hb hL hl)
  have h2 := hf _ _ (by omega) (by omega) h1
  rw [fB_l ⟨i1, i2⟩, fB_r ⟨i3, i4⟩] at h2
  exact h2
theorem UInv.clo' {a b : Dfa} (ha : VD a) (hb : VD b) (hL : a.L = b.L) {i : Nat} {st : USt} (h : UInv a b i 0 st) (hi : st.1.length ≤ i) : Clo a b (FK (UR a.fin.length st.1)) := by
  refine ⟨FK.eqv _, h.start, fun u v x hx _ _ hk => ?_⟩
  have hE : Eqv (fun u v => FK (UR a.fin.length st.1) (sB a b x u) (sB a b x v)) := ⟨fun u => rfl, fun u v h => Eq.symm h, fun u v w h k => Eq.trans h k⟩
  refine Gen.le hE ?_ ((ur_gen _ _ _ _).1 hk)
  rintro u v ⟨p, hp, rfl, rfl⟩
  rw [List.mem_map] at hp
  obtain ⟨q, hq, rfl⟩ := hp
  obtain ⟨i1, i2⟩ := h.bd ha hb hL hq
  show UR _ _ (sB a b x q.1.toNat) = UR _ _ (sB a b x ((a.fin.length : Int) + q.2).toNat)
  rw [sB_l i1, sB_r hb (by rw [← hL]; exact hx) i2]
  obtain ⟨j, hj, e⟩ := List.getElem_of_mem hq
  have := h.clo j x hj hx (.inl (by omega))
  rw [List.getD_eq_getElem?_getD, List.getElem?_eq_getElem hj] at this
  simp only [Option.getD_some, e] at this
  exact this
theorem UInv.fin {a b : Dfa} {i k : Nat} (ha : VD a) (hb : VD b) (hL : a.L = b.L) {st : USt} (h : UInv a b i k st) (hs : st.2 = true) {u v : Nat} (hk : FK (UR a.fin.length st.1) u v) : fB a b u = fB a b v := by
  have hE : Eqv (fun u v => fB a b u = fB a b v) := ⟨fun u => rfl, fun u v h => Eq.symm h, fun u v w h k => Eq.trans h k⟩
  refine Gen.le hE ?_ ((ur_gen _ _ _ _).1 hk)
  rintro u v ⟨p, hp, rfl, rfl⟩
  rw [List.mem_map] at hp
  obtain ⟨q, hq, rfl⟩ := hp
  obtain ⟨i1, i2⟩ := h.bd ha hb hL hq
  show fB a b q.1.toNat = fB a b ((a.fin.length : Int) + q.2).toNat
  rw [fB_l i1, fB_r i2]
  exact h.same.1 hs q hq
/-- all united: the answer -/
theorem UInv.done {a b : Dfa} (ha : VD a) (hb : VD b) (hL : a.L = b.L) {i : Nat} {st : USt} (h : UInv a b i 0 st) (hi : st.1.length ≤ i) (hs : st.2 = true) : Lng a b ∧ canon (rhoL (a.fin.length + b.fin.length) (UR a.fin.length st.1)) = leastL a b := by
  have hc := h.clo' ha hb hL hi
  refine ⟨hc.lng ha hb hL (fun u v _ _ hk => h.fin ha hb hL hs hk), ?_⟩
  unfold leastL fromB
  rw [if_pos (ps_may ha hb hL)]
  have e : ((a.fin.length : Int) + b.fin.length).toNat = a.fin.length + b.fin.length := by omega
  rw [e]
  refine canon_of_ker (by rw [rhoL_length, rhoL_length]) fun u v hu hv => ?_
  rw [rhoL_length] at hu hv
  rw [ker_rho hu hv, ker_rho hu hv, ufs_gen]
  constructor
  · intro hk
    rw [ur_gen] at hk
    refine hk.mono ?_
    rintro u v ⟨p, hp, rfl, rfl⟩
    rw [List.mem_map] at hp
    obtain ⟨q, hq, rfl⟩ := hp
    exact Gen.of ⟨sh a.fin.length q, List.mem_map_of_mem ((psL_mem ha hb hL q).2 (h.reach q hq)), rfl, rfl⟩
  · exact hc.ge ha hb hL
theorem UInv.differ {a b : Dfa} {i k : Nat} {st : USt} (h : UInv a b i k st) (hs : st.2 = false) : ¬ Lng a b := by
  intro hl
  have : ¬ st.2 = true := by rw [hs]; decide
  rw [h.same] at this
  apply this
  intro p hp
  obtain ⟨l, hok, rfl⟩ := h.reach p hp
  exact hl l hok
/-! compressing -/
theorem Rep.idem {ρ : Nat → Nat} {f : List Int} {n : Nat} (h : Rep ρ f n) : ∀ k, k < n → ρ (ρ k) = ρ k := by
  intro k
  induction k using Nat.strongRecOn with
  | _ k ih =>
    intro hk
    obtain ⟨a1, a2, a3, a4, a5⟩ := h.2 k hk
    by_cases e : f.getD k 0 = k
    · rw [a4.1 e]; exact a4.1 e
    · have := ih (f.getD k 0).toNat (by omega) (by omega)
      rw [a3] at this; exact this
theorem Rep.setRoot {ρ : Nat → Nat} {f : List Int} {n i : Nat} (h : Rep ρ f n) (hi : i < n) : Rep ρ (f.set i ((ρ i : Nat) : Int)) n := by
  refine ⟨by rw [List.length_set]; exact h.1, fun k hk => ?_⟩
  by_cases e : i = k
  · subst e
    obtain ⟨a1, a2, a3, a4, a5⟩ := h.2 i hk
    rw [getD_set_same (by rw [h.1]; exact hi)]
    refine ⟨by omega, by omega, by rw [Int.toNat_natCast]; exact h.idem i hi, by omega, a5⟩
  · rw [getD_set_other e]; exact h.2 k hk
/-- those that point to their roots -/
def AtR (ρ : Nat → Nat) (f g : List Int) (n : Nat) : Prop := ∀ j, j < n → f.getD j 0 = ((ρ j : Nat) : Int) → g.getD j 0 = ((ρ j : Nat) : Int)
theorem AtR.halve {ρ : Nat → Nat} {f g : List Int} {n i : Nat} (h : AtR ρ f g n) (hr : Rep ρ g n) (hi : i < n) : AtR ρ f (g.set i (g.getD (g.getD i 0).toNat 0)) n := by
  intro j hj hf
  have hg := h j hj hf
  by_cases e : i = j
  · subst e
    rw [getD_set_same (by rw [hr.1]; exact hi), hg, Int.toNat_natCast]
    have hlt : ρ i < n := by have := (hr.2 i hi).2.2.2.2; omega
    exact (hr.2 (ρ i) hlt).2.2.2.1.2 (hr.idem i hi)
  · rw [getD_set_other e]; exact hg
theorem all_root {ρ : Nat → Nat} {f : List Int} {n : Nat} (hl : f.length = n) (h : ∀ j, j < n → f.getD j 0 = ((ρ j : Nat) : Int)) : f = rhoL n ρ := by
  apply List.ext_getElem
  · rw [rhoL_length]; exact hl
  · intro j h1 h2
    have := h j (by omega)
    rw [List.getD_eq_getElem?_getD, List.getElem?_eq_getElem h1] at this
    simp only [Option.getD_some] at this
    rw [this]
    simp [rhoL]
end Go.Sx.Pt

set_option linter.unusedVariables false
set_option linter.unusedSectionVars false
set_option linter.unusedSimpArgs false
namespace Go.Sx.Pt
/-! ### the least word that tells two automata apart -/
def DifD (a b : Dfa) (op : Int) : List UInt8 × Bool := SrcV (stepP a b) a.L.toNat (a.s, b.s) (0, 0) (univ2 a.fin.length b.fin.length).length (finP a b op)
theorem pairE_zero {a b : Dfa} (h : pairE a b = 0) : VD a ∧ VD b ∧ a.L = b.L := by
  unfold pairE at h
  rw [← errV_iff, ← errV_iff]
  by_cases h1 : errV a = 0 <;> by_cases h2 : errV b = 0 <;> by_cases h3 : a.L = b.L <;> simp_all
theorem pairE_mk {a b : Dfa} (ha : VD a) (hb : VD b) (hL : a.L = b.L) : pairE a b = 0 := by
  unfold pairE
  simp only [(errV_iff a).2 ha, (errV_iff b).2 hb, hL, ne_eq, not_true_eq_false, if_false]
theorem byB6 (u v : Bool) : byB 6 u v = (u != v) := by cases u <;> cases v <;> decide
theorem byB4 (u v : Bool) : byB 4 u v = (u && !v) := by cases u <;> cases v <;> decide
theorem finP6 (a b : Dfa) (p : Int × Int) : finP a b 6 p = (finQ a p.1 != finQ b p.2) := byB6 _ _
theorem finP4 (a b : Dfa) (p : Int × Int) : finP a b 4 p = (finQ a p.1 && !finQ b p.2) := byB4 _ _
theorem dif_spec {a b : Dfa} (ha : VD a) (hb : VD b) (hL : a.L = b.L) (op : Int) :
    ((DifD a b op).2 = true → Okw a (DifD a b op).1 ∧ byB op (finQ a (runI a a.s (DifD a b op).1)) (finQ b (runI b b.s (DifD a b op).1)) = true) ∧
    (∀ l, Okw a l → byB op (finQ a (runI a a.s l)) (finQ b (runI b b.s l)) = true → (DifD a b op).2 = true ∧ sle (DifD a b op).1 l) := by
  have hv := ha.L
  have e : ((a.L.toNat : Nat) : Int) = a.L := by omega
  have h := src_spec (f := stepP a b) (L := a.L.toNat) (z := (0, 0)) (wd := finP a b op) (by omega) (start_univ2 ha hb) (step_univ2 ha hb hL)
  rw [e] at h
  have hw : ∀ l, finP a b op (foldW (stepP a b) (a.s, b.s) l) = byB op (finQ a (runI a a.s l)) (finQ b (runI b b.s l)) := fun l => by rw [foldW_stepP]; rfl
  refine ⟨fun h2 => ?_, fun l hl hne => h.2 l hl (by rw [hw]; exact hne)⟩
  obtain ⟨h3, h4⟩ := h.1 h2
  rw [hw] at h4
  exact ⟨h3, h4⟩
theorem dif_false {a b : Dfa} {op : Int} (h : (DifD a b op).2 = false) : (DifD a b op).1 = [] := by
  unfold DifD SrcV at *
  split at h
  · cases h
  · rfl
theorem dif6_iff {a b : Dfa} (ha : VD a) (hb : VD b) (hL : a.L = b.L) : (DifD a b 6).2 = false ↔ Lng a b := by
  obtain ⟨h1, h2⟩ := dif_spec ha hb hL 6
  constructor
  · intro h l hl
    apply Classical.byContradiction
    intro hne
    have := (h2 l hl (by rw [byB6]; simpa using hne)).1
    rw [h] at this; cases this
  · intro h
    cases e : (DifD a b 6).2 with
    | false => rfl
    | true =>
      obtain ⟨h3, h4⟩ := h1 e
      rw [byB6, h _ h3] at h4
      simp at h4
theorem dif4_iff {a b : Dfa} (ha : VD a) (hb : VD b) (hL : a.L = b.L) : (DifD a b 4).2 = false ↔ ∀ l, Okw a l → finQ a (runI a a.s l) = true → finQ b (runI b b.s l) = true := by
  obtain ⟨h1, h2⟩ := dif_spec ha hb hL 4
  constructor
  · intro h l hl hf
    apply Classical.byContradiction
    intro hne
    have := (h2 l hl (by rw [byB4, hf]; simpa using hne)).1
    rw [h] at this; cases this
  · intro h
    cases e : (DifD a b 4).2 with
    | false => rfl
    | true =>
      obtain ⟨h3, h4⟩ := h1 e
      rw [byB4, Bool.and_eq_true] at h4
      rw [h _ h3 h4.1] at h4
      simp at h4
theorem dif_len {a b : Dfa} (op : Int) : (DifD a b op).1.length ≤ a.fin.length * b.fin.length := by
  unfold DifD SrcV
  split
  · rename_i i h
    unfold srI at h
    rw [List.find?_range_eq_some] at h
    have hi : i < (exI (stepP a b) a.L.toNat (a.s, b.s) (0, 0) (univ2 a.fin.length b.fin.length).length).length := by simpa using h.2.1
    have := exIw_wd' (f := stepP a b) (L := a.L.toNat) (s := (a.s, b.s)) (z := (0, 0)) (univ2 a.fin.length b.fin.length).length _ (getD_mem (d := []) (k := i) (by rw [exIw_len]; exact hi))
    rw [univ2_len] at this
    rw [univ2_len]
    exact this
  · simp
/-! ### both automata as one -/
def bothD (a b : Dfa) : Dfa := ⟨a.L, a.s, a.fin ++ b.fin, a.nx ++ b.nx.map fun r => r.map fun t => (a.fin.length : Int) + t⟩
theorem both_nl {a b : Dfa} (ha : VD a) {i : Nat} (hi : i < a.fin.length) : (bothD a b).nx.getD i [] = a.nx.getD i [] := by
  show (a.nx ++ _).getD i [] = _
  exact getD_app _ (by rw [ha.nx]; exact hi)
theorem getD_mapN {α β : Type} (f : α → β) {l : List α} {i : Nat} {d : α} {e : β} (hi : i < l.length) : (l.map f).getD i e = f (l.getD i d) := by
  simp [List.getD_eq_getElem?_getD, hi]
theorem getD_right {α : Type} {xs ys : List α} {d : α} (i : Nat) : (xs ++ ys).getD (xs.length + i) d = ys.getD i d := by
  simp [List.getD_eq_getElem?_getD, List.getElem?_append_right]
theorem both_nr {a b : Dfa} (ha : VD a) (hb : VD b) {i : Nat} (hi : i < b.fin.length) : (bothD a b).nx.getD (a.fin.length + i) [] = (b.nx.getD i []).map fun t => (a.fin.length : Int) + t := by
  show (a.nx ++ _).getD _ [] = _
  rw [← ha.nx, getD_right, getD_mapN _ (d := []) (by rw [hb.nx]; exact hi), ha.nx]
theorem both_len (a b : Dfa) : (bothD a b).fin.length = a.fin.length + b.fin.length := List.length_append
theorem both_fl {a b : Dfa} {i : Nat} (hi : i < a.fin.length) : (bothD a b).fin.getD i false = a.fin.getD i false := getD_app _ hi
theorem both_fr {a b : Dfa} (i : Nat) : (bothD a b).fin.getD (a.fin.length + i) false = b.fin.getD i false := getD_right i
theorem both_step {a b : Dfa} (ha : VD a) (hb : VD b) (hL : a.L = b.L) {u : Nat} (hu : u < a.fin.length + b.fin.length) {x : Nat} (hx : (x : Int) < a.L) : stepQ (bothD a b) (u : Int) x = ((sB a b x u : Nat) : Int) := by
  unfold stepQ sB
  rw [Int.toNat_natCast]
  split
  · rename_i h
    rw [both_nl ha h]
    have := (stepQ_inr ha (q := (u : Int)) ⟨by omega, by omega⟩ hx).1
    unfold stepQ at this ⊢
    rw [Int.toNat_natCast] at this ⊢
    omega
  · rename_i h
    obtain ⟨i, rfl⟩ : ∃ i, u = a.fin.length + i := ⟨u - a.fin.length, by omega⟩
    rw [both_nr ha hb (by omega)]
    have hr := hb.row i (by omega)
    rw [getD_mapN _ (d := 0) (by omega)]
    have := (stepQ_inr hb (q := (i : Int)) ⟨by omega, by omega⟩ (by rw [← hL]; exact hx)).1
    unfold stepQ at this ⊢
    rw [Int.toNat_natCast] at this
    have e : (((a.fin.length + i : Nat) : Int) - a.fin.length).toNat = i := by omega
    rw [e]
    omega
theorem both_fin {a b : Dfa} {u : Nat} : finQ (bothD a b) (u : Int) = fB a b u := by
  unfold finQ fB
  rw [Int.toNat_natCast]
  split
  · rename_i h; rw [both_fl h]; unfold finQ; rw [Int.toNat_natCast]
  · rename_i h
    obtain ⟨i, rfl⟩ : ∃ i, u = a.fin.length + i := ⟨u - a.fin.length, by omega⟩
    rw [both_fr]
    unfold finQ
    rw [show (((a.fin.length + i : Nat) : Int) - a.fin.length).toNat = i by omega]
theorem sB_lt {a b : Dfa} (ha : VD a) (hb : VD b) (hL : a.L = b.L) {u : Nat} (hu : u < a.fin.length + b.fin.length) {x : Nat} (hx : (x : Int) < a.L) : sB a b x u < a.fin.length + b.fin.length := by
  unfold sB
  split
  · rename_i h
    have := stepQ_inr ha (q := (u : Int)) ⟨by omega, by omega⟩ hx
    have h1 := this.1; have h2 := this.2
    omega
  · rename_i h
    have := stepQ_inr hb (q := (u : Int) - a.fin.length) ⟨by omega, by omega⟩ (by rw [← hL]; exact hx)
    have h1 := this.1; have h2 := this.2
    omega
theorem both_vd {a b : Dfa} (ha : VD a) (hb : VD b) (hL : a.L = b.L) (hn : a.fin.length + b.fin.length ≤ 512) : VD (bothD a b) := by
  have h1 := ha.s
  refine ⟨ha.L, by rw [both_len]; exact hn, ?_, ⟨h1.1, by rw [both_len]; show a.s < _; omega⟩, ?_, ?_⟩
  · rw [both_len]; show (a.nx ++ _).length = _; rw [List.length_append, List.length_map, ha.nx, hb.nx]
  · intro i hi
    rw [both_len] at hi
    rcases Nat.lt_or_ge i a.fin.length with h | h
    · rw [both_nl ha h]; exact ha.row i h
    · obtain ⟨j, rfl⟩ : ∃ j, i = a.fin.length + j := ⟨i - a.fin.length, by omega⟩
      rw [both_nr ha hb (by omega), List.length_map, hb.row j (by omega)]; exact hL.symm
  · intro i x hi hx
    rw [both_len] at hi
    rw [both_len]
    have hrow : ((x : Nat) : Int) < a.L := by
      rcases Nat.lt_or_ge i a.fin.length with h | h
      · rw [both_nl ha h] at hx; have := ha.row i h; omega
      · obtain ⟨j, rfl⟩ : ∃ j, i = a.fin.length + j := ⟨i - a.fin.length, by omega⟩
        rw [both_nr ha hb (by omega), List.length_map] at hx; have := hb.row j (by omega); omega
    have h2 := both_step ha hb hL hi hrow
    have h3 := sB_lt ha hb hL hi hrow
    unfold stepQ at h2
    rw [Int.toNat_natCast] at h2
    rw [h2]
    omega
theorem both_runl {a b : Dfa} (ha : VD a) : ∀ (l : List UInt8) (p : Int), InR a p → Okw a l → runI (bothD a b) p l = runI a p l := by
  intro l
  induction l with
  | nil => intro p _ _; rfl
  | cons c l ih =>
    intro p hp hl
    obtain ⟨h4, h5⟩ := okw_cons.1 hl
    have hx := okB_num h4
    rw [runI_cons, runI_cons]
    have h1 := hp.1; have h2 := hp.2
    have e : stepQ (bothD a b) p ((c.toNat : Int) - 97).toNat = stepQ a p ((c.toNat : Int) - 97).toNat := by
      unfold stepQ; rw [both_nl ha (by omega)]
    rw [e]
    exact ih _ (stepQ_inr ha hp hx) h5
theorem both_runr {a b : Dfa} (ha : VD a) (hb : VD b) (hL : a.L = b.L) : ∀ (l : List UInt8) (p : Int), InR b p → Okw a l → runI (bothD a b) ((a.fin.length : Int) + p) l = (a.fin.length : Int) + runI b p l := by
  intro l
  induction l with
  | nil => intro p _ _; rfl
  | cons c l ih =>
    intro p hp hl
    obtain ⟨h4, h5⟩ := okw_cons.1 hl
    have hx := okB_num h4
    rw [runI_cons, runI_cons]
    have h1 := hp.1; have h2 := hp.2
    have hr := hb.row p.toNat (by omega)
    have e : stepQ (bothD a b) ((a.fin.length : Int) + p) ((c.toNat : Int) - 97).toNat = (a.fin.length : Int) + stepQ b p ((c.toNat : Int) - 97).toNat := by
      unfold stepQ
      rw [show ((a.fin.length : Int) + p).toNat = a.fin.length + p.toNat by omega, both_nr ha hb (by omega), getD_mapN _ (d := 0) (by omega)]
    rw [e]
    exact ih _ (stepQ_inr hb hp (by rw [← hL]; exact hx)) h5
/-- the least word is short -/
theorem dif6_len {a b : Dfa} (ha : VD a) (hb : VD b) (hL : a.L = b.L) (hn : a.fin.length + b.fin.length ≤ 512) : (DifD a b 6).1.length < a.fin.length + b.fin.length := by
  have h0 := ha.s
  have h0b := hb.s
  obtain ⟨s1, s2⟩ := dif_spec ha hb hL 6
  cases e : (DifD a b 6).2 with
  | false => rw [dif_false e]; simp; omega
  | true =>
    obtain ⟨h1, h2⟩ := s1 e
    have hv := both_vd ha hb hL hn
    have hp : InR (bothD a b) a.s := ⟨h0.1, by rw [both_len]; omega⟩
    have hq : InR (bothD a b) ((a.fin.length : Int) + b.s) := ⟨by omega, by rw [both_len]; omega⟩
    have key : ∀ l, Okw a l → (finQ (bothD a b) (runI (bothD a b) a.s l) = finQ a (runI a a.s l) ∧ finQ (bothD a b) (runI (bothD a b) ((a.fin.length : Int) + b.s) l) = finQ b (runI b b.s l)) := by
      intro l hl
      have i1 := runI_inr ha l _ ha.s hl
      have i2 := runI_inr hb l _ hb.s ((okw_L hL).1 hl)
      have i3 := i1.1; have i4 := i1.2; have i5 := i2.1; have i6 := i2.2
      rw [both_runl ha l _ ha.s hl, both_runr ha hb hL l _ hb.s hl]
      constructor
      · unfold finQ; exact both_fl (by omega)
      · unfold finQ; rw [show ((a.fin.length : Int) + runI b b.s l).toNat = a.fin.length + (runI b b.s l).toNat by omega]; exact both_fr _
    obtain ⟨d1, d2⟩ := dis_spec hv hp hq
    have hne : finQ (bothD a b) (runI (bothD a b) a.s (DifD a b 6).1) ≠ finQ (bothD a b) (runI (bothD a b) ((a.fin.length : Int) + b.s) (DifD a b 6).1) := by
      rw [(key _ h1).1, (key _ h1).2]
      rw [byB6] at h2
      simpa using h2
    have hd := (d2 _ h1 hne).1
    obtain ⟨g1, g2⟩ := d1 hd
    have hl := dis_len hv hp hq
    rw [both_len] at hl
    have g1' : Okw a (DisD (bothD a b) a.s ((a.fin.length : Int) + b.s)).1 := g1
    rw [(key _ g1').1, (key _ g1').2] at g2
    have := sle_len (s2 _ g1' (by rw [byB6]; simpa using g2)).2
    omega
/-! ### the answers -/
def FindB (a b : Dfa) : Bool := decide (pairE a b = 0) && !(DifD a b 6).2
def FindW (a b : Dfa) : List UInt8 := if pairE a b = 0 then (DifD a b 6).1 else []
def FindP (a b : Dfa) : List Int := if FindB a b = true then leastL a b else []
def InclE (a b : Dfa) : Int := if pairE a b ≠ 0 then pairE a b else if (DifD a b 4).2 = true ∧ 2048 < (DifD a b 4).1.length then 3 else 0
def InclB (a b : Dfa) : Bool := decide (pairE a b = 0) && !(DifD a b 4).2
def InclW (a b : Dfa) : List UInt8 := if InclE a b = 0 then (DifD a b 4).1 else []
theorem leastL_len {a b : Dfa} (ha : VD a) (hb : VD b) (hL : a.L = b.L) : (leastL a b).length = a.fin.length + b.fin.length := by
  unfold leastL; rw [fromB_len (ps_may ha hb hL)]; omega
theorem find_bad {a b : Dfa} (h : pairE a b ≠ 0) : FindB a b = false ∧ FindW a b = [] ∧ FindP a b = [] := by
  have h1 : FindB a b = false := by unfold FindB; rw [decide_eq_false h]; rfl
  exact ⟨h1, if_neg h, by unfold FindP; rw [h1]; rfl⟩
theorem find_ok {a b : Dfa} (h : pairE a b = 0) : FindB a b = !(DifD a b 6).2 ∧ FindW a b = (DifD a b 6).1 := ⟨by unfold FindB; rw [decide_eq_true h]; rfl, if_pos h⟩
theorem find_iff {a b : Dfa} (h : pairE a b = 0) : FindB a b = true ↔ Lng a b := by
  obtain ⟨ha, hb, hL⟩ := pairE_zero h
  rw [(find_ok h).1, ← dif6_iff ha hb hL]
  simp
end Go.Sx.Pt
