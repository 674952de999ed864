import Derived.Test.YtoikhoniogicdaaMe
set_option linter.unusedVariables false
set_option linter.unusedSectionVars false
set_option linter.unusedSimpArgs false
namespace Go.Sx
/-! ### tests; what a proof of minimality is -/
def rowT (m : Dfa) (w : List UInt8) : List Bool := (List.range m.fin.length).map fun (q : Nat) => finQ m (runI m (q : Int) w)
theorem rowT_len (m : Dfa) (w : List UInt8) : (rowT m w).length = m.fin.length := by simp [rowT]
theorem rowT_get {m : Dfa} {w : List UInt8} {q : Int} (h : InR m q) : (rowT m w).getD q.toNat false = finQ m (runI m q w) := by
  have h1 := h.1; have h2 := h.2
  have : q.toNat < m.fin.length := by omega
  have e : ((q.toNat : Nat) : Int) = q := by omega
  simp [rowT, List.getD_eq_getElem?_getD, this, e]
theorem rowT_nil (m : Dfa) : rowT m [] = m.fin := by
  apply List.ext_getElem
  · simp [rowT]
  · intro i h1 h2
    simp [rowT, runI, finQ, List.getD_eq_getElem?_getD, h2]
def SameT (m : Dfa) (ws : List (List UInt8)) (p q : Int) : Prop := ∀ w ∈ ws, finQ m (runI m p w) = finQ m (runI m q w)
theorem SameT.snoc {m : Dfa} {ws : List (List UInt8)} {t : List UInt8} {p q : Int} : SameT m (ws ++ [t]) p q ↔ SameT m ws p q ∧ finQ m (runI m p t) = finQ m (runI m q t) := by
  unfold SameT
  constructor
  · intro h; exact ⟨fun w hw => h w (List.mem_append_left _ hw), h t (by simp)⟩
  · rintro ⟨h1, h2⟩ w hw
    rcases List.mem_append.1 hw with h | h
    · exact h1 w h
    · rw [List.mem_singleton] at h; subst h; exact h2
structure KerT (m : Dfa) (ws : List (List UInt8)) (cs : List Int) : Prop where
  len : cs.length = m.fin.length
  can : canN cs = cs
  ker : ∀ p q, InR m p → InR m q → (cs.getD p.toNat 0 = cs.getD q.toNat 0 ↔ SameT m ws p q)
def RedS (m : Dfa) : Prop := ∀ p q, InR m p → InR m q → EqS m p q → p = q
structure TInv (m : Dfa) (ws : List (List UInt8)) (t : List UInt8) (cs : List Int) : Prop where
  ok : ∀ w ∈ ws, Okw m w ∧ w.length ≤ ws.length
  tok : Okw m t ∧ t.length ≤ ws.length
  ker : KerT m ws cs
  cnt : ws.length + 1 ≤ (ded cs).length
  sep : 1 < m.fin.length → ∃ p q, InR m p ∧ InR m q ∧ SameT m ws p q ∧ finQ m (runI m p t) ≠ finQ m (runI m q t)
  nil : (ws = [] ∧ t = []) ∨ [] ∈ ws
structure TestsOK (m : Dfa) (ws : List (List UInt8)) : Prop where
  len : ws.length + 1 ≤ m.fin.length
  ok : ∀ w ∈ ws, validW m.L w = true
  sep : ∀ p q, InR m p → InR m q → SameT m ws p q → p = q
theorem TInv.zero {m : Dfa} (hv : VD m) (hr : RedS m) : TInv m [] [] (List.replicate m.fin.length 0) := by
  have hn : 0 < m.fin.length := by have := hv.s; omega
  have hd : ∀ n, 0 < n → ded (List.replicate n (0 : Int)) = [0] := by
    intro n hn
    obtain ⟨k, rfl⟩ : ∃ k, n = k + 1 := ⟨n - 1, by omega⟩
    clear hn
    induction k with
    | zero => rfl
    | succ k ih => rw [List.replicate_succ', ded_snoc, ih]; rfl
  refine ⟨fun w hw => (by cases hw), ⟨Okw.nil, Nat.le_refl _⟩, ⟨by simp, ?_, fun p q hp hq => ?_⟩, by rw [hd _ hn]; simp, fun h1 => ?_, .inl ⟨rfl, rfl⟩⟩
  · unfold canN
    rw [hd _ hn]
    simp [posN]
  · constructor
    · intro _ w hw; cases hw
    · intro _
      have h1 := hp.2; have h2 := hq.2; have h3 := hp.1; have h4 := hq.1
      simp [List.getD_eq_getElem?_getD, List.getElem?_replicate]
      rw [if_pos (by omega), if_pos (by omega)]
  · apply Classical.byContradiction
    intro hno
    have hall : ∀ p q, InR m p → InR m q → finQ m p = finQ m q := by
      intro p q hp hq
      apply Classical.byContradiction
      intro hne
      exact hno ⟨p, q, hp, hq, fun w hw => (by cases hw), hne⟩
    have := hr 0 1 ⟨by omega, by omega⟩ ⟨by omega, by omega⟩ (fun l hl => hall _ _ (runI_inr hv l 0 ⟨by omega, by omega⟩ hl) (runI_inr hv l 1 ⟨by omega, by omega⟩ hl))
    omega
/-- split by a row -/
def spl (cs : List Int) (row : List Bool) : List Int := canN (cs.zip row)
theorem zip_get {cs : List Int} {row : List Bool} {i : Nat} (h1 : i < cs.length) (h2 : i < row.length) : (cs.zip row).getD i (0, false) = (cs.getD i 0, row.getD i false) := by
  have h3 : i < (cs.zip row).length := by rw [List.length_zip]; omega
  rw [List.getD_eq_getElem?_getD, List.getElem?_eq_getElem h3, Option.getD_some, List.getElem_zip, List.getD_eq_getElem?_getD, List.getElem?_eq_getElem h1, Option.getD_some, List.getD_eq_getElem?_getD, List.getElem?_eq_getElem h2, Option.getD_some]
theorem TInv.split {m : Dfa} {ws : List (List UInt8)} {t : List UInt8} {cs : List Int} (h : TInv m ws t cs) (hn : 1 < m.fin.length) : KerT m (ws ++ [t]) (spl cs (rowT m t)) ∧ ws.length + 2 ≤ (ded (spl cs (rowT m t))).length := by
  have hl : (cs.zip (rowT m t)).length = m.fin.length := by rw [List.length_zip, h.ker.len, rowT_len, Nat.min_self]
  have hk : KerT m (ws ++ [t]) (spl cs (rowT m t)) := by
    refine ⟨by rw [spl, canN_len, hl], canN_canN _, fun p q hp hq => ?_⟩
    have h1 := hp.2; have h2 := hq.2; have h3 := hp.1; have h4 := hq.1
    have e1 := h.ker.len
    have e2 := rowT_len m t
    unfold spl
    rw [canN_eq (0, false) (by omega) (by omega), zip_get (by omega) (by omega), zip_get (by omega) (by omega), Prod.mk.injEq, h.ker.ker p q hp hq, rowT_get hp, rowT_get hq, SameT.snoc]
  refine ⟨hk, ?_⟩
  obtain ⟨p, q, hp, hq, hs, hne⟩ := h.sep hn
  have h1 := hp.2; have h2 := hq.2; have h3 := hp.1; have h4 := hq.1
  have hr := ded_refine (xs := spl cs (rowT m t)) (ys := cs) 0 0 (hk.len.trans h.ker.len.symm) (fun i j hi hj e => by
    rw [hk.len] at hi hj
    have h1 := hk.ker (i : Int) (j : Int) ⟨by omega, by omega⟩ ⟨by omega, by omega⟩
    have h2 := h.ker.ker (i : Int) (j : Int) ⟨by omega, by omega⟩ ⟨by omega, by omega⟩
    rw [Int.toNat_natCast, Int.toNat_natCast] at h1 h2
    exact h2.2 (SameT.snoc.1 (h1.1 e)).1)
  have := h.cnt
  rcases Nat.lt_or_ge (ded cs).length (ded (spl cs (rowT m t))).length with h5 | h5
  · omega
  · exfalso
    have h6 := hr.2 h5 p.toNat q.toNat (by rw [hk.len]; omega) (by rw [hk.len]; omega) ((h.ker.ker p q hp hq).2 hs)
    exact hne (SameT.snoc.1 ((hk.ker p q hp hq).1 h6)).2
theorem nil_mem {m : Dfa} {ws : List (List UInt8)} {t : List UInt8} {cs : List Int} (h : TInv m ws t cs) : [] ∈ ws ++ [t] := by
  rcases h.nil with ⟨rfl, rfl⟩ | h
  · simp
  · exact List.mem_append_left _ h
theorem TInv.next {m : Dfa} (hv : VD m) {ws : List (List UInt8)} {t : List UInt8} {cs : List Int} (h : TInv m ws t cs) (hn : 1 < m.fin.length) {x k : Nat} (hx : (x : Int) < m.L) (hk : k < (ws ++ [t]).length) {p q : Int} (hp : InR m p) (hq : InR m q)
    (hs : (spl cs (rowT m t)).getD p.toNat 0 = (spl cs (rowT m t)).getD q.toNat 0) (hne : finQ m (runI m (stepQ m p x) ((ws ++ [t]).getD k [])) ≠ finQ m (runI m (stepQ m q x) ((ws ++ [t]).getD k []))) :
    TInv m (ws ++ [t]) (ltr x :: (ws ++ [t]).getD k []) (spl cs (rowT m t)) := by
  obtain ⟨h1, h2⟩ := h.split hn
  have hL := hv.L
  have hok : ∀ w ∈ ws ++ [t], Okw m w ∧ w.length ≤ ws.length := by
    intro w hw
    rcases List.mem_append.1 hw with hw | hw
    · exact h.ok w hw
    · rw [List.mem_singleton] at hw; subst hw; exact h.tok
  have hm := hok _ (getD_mem (d := []) hk)
  refine ⟨fun w hw => ⟨(hok w hw).1, by rw [List.length_append]; have := (hok w hw).2; omega⟩, ⟨okw_cons.2 ⟨okB_ltr hL hx, hm.1⟩, by rw [List.length_append]; simp only [List.length_cons, List.length_nil]; have := hm.2; omega⟩, h1, by rw [List.length_append]; exact h2, fun _ => ⟨p, q, hp, hq, (h1.ker p q hp hq).1 hs, ?_⟩, .inr (nil_mem h)⟩
  rw [runI_cons, runI_cons, ltr_num (by omega)]
  exact hne
theorem okw_valid {m : Dfa} (hv : VD m) {w : List UInt8} (h : Okw m w) (hl : w.length ≤ 2048) : validW m.L w = true := by
  have hL := hv.L
  unfold Okw at h
  unfold validW; rw [h, Bool.and_true, decide_eq_true_eq]; omega
theorem cnt_le {m : Dfa} {ws : List (List UInt8)} {cs : List Int} (h : KerT m ws cs) : (ded cs).length ≤ m.fin.length := by have := ded_le cs; rw [h.len] at this; exact this
/-- no letter tells two of one class apart -/
theorem TInv.done1 {m : Dfa} (hv : VD m) (hr : RedS m) {ws : List (List UInt8)} {t : List UInt8} {cs : List Int} (h : TInv m ws t cs) (hn : 1 < m.fin.length)
    (hc : ∀ p q (x : Nat), InR m p → InR m q → (x : Int) < m.L → (spl cs (rowT m t)).getD p.toNat 0 = (spl cs (rowT m t)).getD q.toNat 0 → (spl cs (rowT m t)).getD (stepQ m p x).toNat 0 = (spl cs (rowT m t)).getD (stepQ m q x).toNat 0) : TestsOK m (ws ++ [t]) := by
  obtain ⟨h1, h2⟩ := h.split hn
  have h3 := cnt_le h1
  have hn5 := hv.n
  refine ⟨by rw [List.length_append]; simp only [List.length_cons, List.length_nil]; omega, fun w hw => ?_, fun p q hp hq hs => ?_⟩
  · rcases List.mem_append.1 hw with hw | hw
    · exact okw_valid hv (h.ok w hw).1 (by have := (h.ok w hw).2; omega)
    · rw [List.mem_singleton] at hw; subst hw; exact okw_valid hv h.tok.1 (by have := h.tok.2; omega)
  · have key : ∀ (l : List UInt8) (p q : Int), InR m p → InR m q → (spl cs (rowT m t)).getD p.toNat 0 = (spl cs (rowT m t)).getD q.toNat 0 → Okw m l → finQ m (runI m p l) = finQ m (runI m q l) := by
      intro l
      induction l with
      | nil => intro p q hp hq he _; exact (h1.ker p q hp hq).1 he [] (nil_mem h)
      | cons c l ih =>
        intro p q hp hq he hl
        obtain ⟨h4, h5⟩ := okw_cons.1 hl
        have hx := okB_num h4
        rw [runI_cons, runI_cons]
        exact ih _ _ (stepQ_inr hv hp hx) (stepQ_inr hv hq hx) (hc p q _ hp hq hx he) h5
    exact hr p q hp hq (fun l hl => key l p q hp hq ((h1.ker p q hp hq).2 hs) hl)
theorem ded_range (n : Nat) : ded (List.range n) = List.range n := by
  induction n with
  | zero => rfl
  | succ n ih => rw [List.range_succ, ded_snoc, ih]; unfold insN; rw [if_neg (by simp)]
/-- as many words as are needed -/
theorem TInv.done0 {m : Dfa} (hv : VD m) {ws : List (List UInt8)} {t : List UInt8} {cs : List Int} (h : TInv m ws t cs) (hn : m.fin.length ≤ ws.length + 1) : TestsOK m ws := by
  have h3 := cnt_le h.ker
  have h4 := h.cnt
  have hn5 := hv.n
  refine ⟨by omega, fun w hw => okw_valid hv (h.ok w hw).1 (by have := (h.ok w hw).2; omega), fun p q hp hq hs => ?_⟩
  have h5 := (h.ker.ker p q hp hq).2 hs
  have p1 := hp.1; have p2 := hp.2; have q1 := hq.1; have q2 := hq.2
  have hr := ded_refine (xs := List.range m.fin.length) (ys := cs) 0 0 (by rw [List.length_range, h.ker.len]) (fun i j hi hj e => by
    rw [List.length_range] at hi hj
    simp only [List.getD_eq_getElem?_getD, List.getElem?_range hi, List.getElem?_range hj, Option.getD_some] at e
    rw [e])
  have := hr.2 (by rw [ded_range, List.length_range]; omega) p.toNat q.toNat (by rw [List.length_range]; omega) (by rw [List.length_range]; omega) h5
  have a1 : p.toNat < m.fin.length := by omega
  have a2 : q.toNat < m.fin.length := by omega
  simp only [List.getD_eq_getElem?_getD, List.getElem?_range a1, List.getElem?_range a2, Option.getD_some] at this
  omega
structure MapOK (d m : Dfa) (mp : List Int) : Prop where
  len : mp.length = d.fin.length
  bd : ∀ i, i < mp.length → -1 ≤ mp.getD i 0 ∧ mp.getD i 0 < m.fin.length
  st : mp.getD d.s.toNat 0 = m.s
  hom : ∀ i : Nat, i < d.fin.length → 0 ≤ mp.getD i 0 → finQ d (i : Int) = finQ m (mp.getD i 0) ∧ ∀ x : Nat, (x : Int) < d.L → mp.getD (stepQ d (i : Int) x).toNat 0 = stepQ m (mp.getD i 0) x
structure AccOK (m : Dfa) (ac : List (List UInt8)) : Prop where
  len : ac.length = m.fin.length
  run : ∀ i, i < ac.length → RunV m m.s (ac.getD i []) = (i : Int)
structure ChkP (d m : Dfa) (mp : List Int) (ac ts : List (List UInt8)) : Prop where
  vd : VD d
  vm : VD m
  L : d.L = m.L
  map : MapOK d m mp
  acc : AccOK m ac
  tst : TestsOK m ts
theorem ChkP.lng {d m : Dfa} {mp : List Int} {ac ts : List (List UInt8)} (h : ChkP d m mp ac ts) : Lng d m := by
  have key : ∀ (l : List UInt8) (p : Int), InR d p → 0 ≤ mp.getD p.toNat 0 → Okw d l → mp.getD (runI d p l).toNat 0 = runI m (mp.getD p.toNat 0) l ∧ 0 ≤ mp.getD (runI d p l).toNat 0 := by
    intro l
    induction l with
    | nil => intro p _ h0 _; exact ⟨rfl, h0⟩
    | cons c l ih =>
      intro p hp h0 hl
      obtain ⟨h4, h5⟩ := okw_cons.1 hl
      have hx := okB_num h4
      have p1 := hp.1; have p2 := hp.2
      have h6 := (h.map.hom p.toNat (by omega) h0).2 _ hx
      rw [Int.toNat_of_nonneg p1] at h6
      have hmr : InR m (mp.getD p.toNat 0) := ⟨h0, (h.map.bd p.toNat (by rw [h.map.len]; omega)).2⟩
      have h7 := stepQ_inr h.vm hmr (x := ((c.toNat : Int) - 97).toNat) (by rw [← h.L]; exact hx)
      rw [runI_cons, runI_cons, ← h6]
      exact ih _ (stepQ_inr h.vd hp hx) (by rw [h6]; exact h7.1) h5
  intro l hl
  have hs := h.map.st
  obtain ⟨h1, h2⟩ := key l d.s h.vd.s (by rw [hs]; exact h.vm.s.1) hl
  rw [hs] at h1
  have hr := runI_inr h.vd l d.s h.vd.s hl
  have r1 := hr.1; have r2 := hr.2
  have h3 := (h.map.hom (runI d d.s l).toNat (by omega) h2).1
  rw [Int.toNat_of_nonneg r1, h1] at h3
  exact h3
theorem ChkP.red {d m : Dfa} {mp : List Int} {ac ts : List (List UInt8)} (h : ChkP d m mp ac ts) : RedS m := fun p q hp hq he => h.tst.sep p q hp hq (fun w hw => he w (by
  have := h.tst.ok w hw
  unfold validW at this; rw [Bool.and_eq_true] at this; exact this.2))
theorem RedS.rdc {m : Dfa} (hv : VD m) (h : RedS m) : Rdc m := fun u v hu hv' he => h _ _ (runI_inr hv u m.s hv.s hu) (runI_inr hv v m.s hv.s hv') he
theorem ChkP.sound {d m : Dfa} {mp : List Int} {ac ts : List (List UInt8)} (h : ChkP d m mp ac ts) (l : List UInt8) : AccV d l = AccV m l ∧ TrimV m = MinV d := by
  refine ⟨h.lng.acc h.vd h.vm h.L l, ?_⟩
  unfold TrimV MinV
  rw [if_pos h.vm, if_pos h.vd]
  exact min_of h.vm h.vd h.L.symm (h.lng.symm h.L) (h.red.rdc h.vm)
/-- the numbers of the states in the minimal automaton -/
def mapM (d : Dfa) : List Int := (List.range d.fin.length).map fun (q : Nat) => if (q : Int) ∈ TSt d then ((posN (TSt (quoD (trimD d))) (clsA (trimD d) ((posN (TSt d) (q : Int) : Nat) : Int)) : Nat) : Int) else -1
theorem mapM_get {d : Dfa} {q : Int} (h : InR d q) : (mapM d).getD q.toNat 0 = if q ∈ TSt d then ((posN (TSt (quoD (trimD d))) (clsA (trimD d) ((posN (TSt d) q : Nat) : Int)) : Nat) : Int) else -1 := by
  have h1 := h.1; have h2 := h.2
  have : q.toNat < d.fin.length := by omega
  have e : ((q.toNat : Nat) : Int) = q := by omega
  simp [mapM, List.getD_eq_getElem?_getD, this, e]
theorem pos_inr {d : Dfa} {q : Int} (h : q ∈ TSt d) : InR (trimD d) ((posN (TSt d) q : Nat) : Int) := by
  have := posN_lt h
  refine ⟨by omega, ?_⟩
  have : (trimD d).fin.length = (TSt d).length := by simp [trimD]
  omega
theorem quo_reach {d : Dfa} (hv : VD d) {i : Int} (hi : InR (trimD d) i) : clsA (trimD d) i ∈ TSt (quoD (trimD d)) := by
  obtain ⟨l, h1, h2, _⟩ := trim_reach hv hi
  have ht := trim_vd hv
  have hq := quo_vd ht
  have hl : Okw (trimD d) l := h1
  have h3 := quo_run ht (p := (trimD d).s) ht.s hl
  have h4 := (trim_runI hq (l := l) (tst_start hq).1 hl).2
  have e : runI (trimD d) (trimD d).s l = i := h2
  have h5 : runI (quoD (trimD d)) (clsA (trimD d) (trimD d).s) l ∈ TSt (quoD (trimD d)) := h4
  rw [h3, e] at h5
  exact h5
theorem mapM_ok {d : Dfa} (hv : VD d) : MapOK d (minD d) (mapM d) := by
  have ht := trim_vd hv
  have hq := quo_vd ht
  have hmt := min_trim hv
  have hL := hv.L
  have hfl : (minD d).fin.length = (TSt (quoD (trimD d))).length := by rw [← hmt]; simp [trimD]
  have hlen : (mapM d).length = d.fin.length := by simp [mapM]
  refine ⟨hlen, fun i hi => ?_, ?_, fun i hi h0 => ?_⟩
  · rw [hlen] at hi
    have := mapM_get (d := d) (q := (i : Int)) ⟨by omega, by omega⟩
    rw [Int.toNat_natCast] at this
    rw [this]
    split
    · rename_i hm
      have := posN_lt (quo_reach hv (pos_inr hm))
      omega
    · omega
  · rw [mapM_get hv.s, if_pos (tst_start hv).1, (tst_start hv).2]
    have e : clsA (trimD d) (((0 : Nat) : Nat) : Int) = (quoD (trimD d)).s := rfl
    rw [e, (tst_start hq).2, ← hmt]; rfl
  · have hin : InR d (i : Int) := ⟨by omega, by omega⟩
    have hg := mapM_get hin
    rw [Int.toNat_natCast] at hg
    rw [hg] at h0 ⊢
    by_cases hm : (i : Int) ∈ TSt d
    · rw [if_pos hm]
      have hp := pos_inr hm
      have hr := quo_reach hv hp
      refine ⟨?_, fun x hx => ?_⟩
      · rw [← hmt, trim_finQ hq hr, quo_fin ht hp, trim_finQ hv hm]
      · have hm2 := TSt_closed hv hm (x := x) (by omega)
        rw [mapM_get (stepQ_inr hv hin hx), if_pos hm2, ← hmt, trim_step hq hr (show (x : Int) < (quoD (trimD d)).L from hx), quo_step ht hp (show (x : Int) < (trimD d).L from hx), trim_step hv hm hx]
    · rw [if_neg hm] at h0; omega
theorem acc_ok {d : Dfa} (hv : VD d) : AccOK (minD d) (AccW (minD d)) := by
  have hm := min_vd hv
  have e1 : AccW (minD d) = TWo (minD d) := if_pos hm
  have htl : (TSt (minD d)).length = (minD d).fin.length := by
    conv => rhs; rw [← min_trimmed hv]
    simp [trimD]
  rw [e1]
  refine ⟨by rw [two_len hm, htl], fun i hi => ?_⟩
  rw [two_len hm] at hi
  obtain ⟨h1, h2⟩ := two_ok hm hi
  have h3 := trim_run hm h1
  rw [h2, posN_at 0 (TSt_ok hm).1 hi, min_trimmed hv] at h3
  exact h3
theorem prove_ok {d : Dfa} (hv : VD d) {ts : List (List UInt8)} (h : TestsOK (minD d) ts) : ChkP d (minD d) (mapM d) (AccW (minD d)) ts := ⟨hv, min_vd hv, rfl, mapM_ok hv, acc_ok hv, h⟩
end Go.Sx
