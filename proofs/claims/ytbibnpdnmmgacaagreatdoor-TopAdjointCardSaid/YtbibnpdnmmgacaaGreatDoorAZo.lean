import Derived.Test.YtbibnpdnmmgacaaGreatDoorAZn
import Derived.Test.YtbibnpdnmmgacaaGreatDoorAZe
import Derived.Test.YtbibnpdnmmgacaaGreatDoorAZk
import Derived.Test.YtbibnpdnmmgacaaGreatDoorAZb
import Derived.Test.YtbibnpdnmmgacaaGreatDoorAZc
import Derived.Test.YtbibnpdnmmgacaaGreatDoorAZj
import Derived.Test.YtbibnpdnmmgacaaGreatDoorAZm
set_option linter.unusedVariables false
set_option linter.unusedSimpArgs false
set_option maxRecDepth 100000
namespace Go.Sx
/-! ### Boolean combinations -/
def langD (d : Dfa) (l : List UInt8) : Prop := finQ d (runI d d.s l) = true
theorem lng_comb {a b : Dfa} (ha : VD a) (hb : VD b) (hL : a.L = b.L) {op : Int} {d : Dfa} (hd : ExpD (minD a).L (minD a).L.toNat (stepP (minD a) (minD b)) ((minD a).s, (minD b).s) (finP (minD a) (minD b) op) d) :
    LngOk a.L (fun l => byB op (finQ a (runI a a.s l)) (finQ b (runI b b.s l)) = true) (minD d) 0 := by
  have hdL : d.L = a.L := hd.L
  refine .inr ⟨rfl, min_vd hd.vd, hdL, min_min hd.vd, fun l hl => ?_⟩
  have h1 := min_lng hd.vd l (by show l.all (okB d.L) = true; rw [hdL]; exact hl)
  have h2 := min_lng ha l hl
  have h3 := min_lng hb l (by show l.all (okB b.L) = true; rw [← hL]; exact hl)
  rw [h1, hd.run l hl, foldW_stepP]
  show byB op (finQ (minD a) (runI (minD a) (minD a).s l)) (finQ (minD b) (runI (minD b) (minD b).s l)) = true ↔ _
  rw [h2, h3]
/-! ### images of words -/
def hW (ws : List (List UInt8)) (u : List UInt8) : List UInt8 := u.flatMap fun c => ws.getD ((c.toNat : Int) - 97).toNat []
theorem hW_cons (ws : List (List UInt8)) (c : UInt8) (u : List UInt8) : hW ws (c :: u) = ws.getD ((c.toNat : Int) - 97).toNat [] ++ hW ws u := by simp [hW]
theorem okB_lt {L : Int} {c : UInt8} (h : okB L c = true) : 97 ≤ c.toNat ∧ (c.toNat : Int) - 97 < L := of_decide_eq_true h
/-- the words are over the letters, as many as there are letters -/
structure WsOk (L M : Int) (ws : List (List UInt8)) : Prop where
  len : (ws.length : Int) = L
  hL : 1 ≤ L ∧ L ≤ 6
  hM : 1 ≤ M ∧ M ≤ 6
  ok : ∀ i, i < ws.length → validW M (ws.getD i []) = true
theorem WsOk.all {L M : Int} {ws : List (List UInt8)} (h : WsOk L M ws) {i : Nat} (hi : i < ws.length) : (ws.getD i []).all (okB M) = true := by
  have := h.ok i hi; unfold validW at this; rw [Bool.and_eq_true] at this; exact this.2
theorem WsOk.h {L M : Int} {ws : List (List UInt8)} (h : WsOk L M ws) : ∀ u : List UInt8, u.all (okB L) = true → (hW ws u).all (okB M) = true
  | [], _ => rfl
  | c :: u, hu => by
    rw [List.all_cons, Bool.and_eq_true] at hu
    have hc := okB_lt hu.1
    rw [hW_cons, List.all_append, h.all (by have := h.len; omega), h.h u hu.2]; rfl
/-! the inverse image -/
def preD (m : Dfa) (ws : List (List UInt8)) : Dfa := ⟨(ws.length : Int), m.s, m.fin, (List.range m.fin.length).map fun (q : Nat) => ws.map fun w => runI m (q : Int) w⟩
theorem pre_vd {m : Dfa} (hv : VD m) {L : Int} {ws : List (List UInt8)} (h : WsOk L m.L ws) : VD (preD m ws) where
  L := by show 1 ≤ (ws.length : Int) ∧ (ws.length : Int) ≤ 6; have := h.len; have := h.hL; omega
  n := hv.n
  nx := by simp [preD]
  s := hv.s
  row i hi := by
    have hi : i < m.fin.length := hi
    simp [preD, List.getD_eq_getElem?_getD, hi]
  to i x hi hx := by
    have hi : i < m.fin.length := hi
    have e : (preD m ws).nx.getD i [] = ws.map fun w => runI m (i : Int) w := by simp [preD, List.getD_eq_getElem?_getD, hi]
    rw [e] at hx ⊢
    have hx : x < ws.length := by simpa using hx
    have e2 : (ws.map fun w => runI m (i : Int) w).getD x 0 = runI m (i : Int) (ws.getD x []) := by simp [List.getD_eq_getElem?_getD, hx]
    rw [e2]
    exact runI_bdw hv (by omega) (h.ok x hx)
theorem pre_run {m : Dfa} (hv : VD m) {L : Int} {ws : List (List UInt8)} (h : WsOk L m.L ws) : ∀ (u : List UInt8) (q : Int), 0 ≤ q ∧ q < m.fin.length → u.all (okB L) = true → runI (preD m ws) q u = runI m q (hW ws u)
  | [], q, _, _ => rfl
  | c :: u, q, hq, hu => by
    rw [List.all_cons, Bool.and_eq_true] at hu
    have hc := okB_lt hu.1
    have hx : ((c.toNat : Int) - 97).toNat < ws.length := by have := h.len; omega
    rw [runI_cons, hW_cons, runI_append]
    have e : stepQ (preD m ws) q ((c.toNat : Int) - 97).toNat = runI m q (ws.getD ((c.toNat : Int) - 97).toNat []) := by
      have e1 : (preD m ws).nx.getD q.toNat [] = ws.map fun w => runI m ((q.toNat : Nat) : Int) w := by simp [preD, List.getD_eq_getElem?_getD, show q.toNat < m.fin.length by omega]
      show ((preD m ws).nx.getD q.toNat []).getD _ 0 = _
      rw [e1, show ((q.toNat : Nat) : Int) = q by omega]
      simp [List.getD_eq_getElem?_getD, hx]
    rw [e]
    exact pre_run hv h u _ (runI_bdw hv hq (h.ok _ hx)) hu.2
theorem lng_pre {b : Dfa} (hb : VD b) {L : Int} {ws : List (List UInt8)} (h : WsOk L b.L ws) : LngOk L (fun u => langD b (hW ws u)) (minD (preD (minD b) ws)) 0 := by
  have hm := min_vd hb
  have hp := pre_vd hm (L := L) (ws := ws) h
  have hpL : (preD (minD b) ws).L = L := h.len
  refine .inr ⟨rfl, min_vd hp, hpL, min_min hp, fun u hu => ?_⟩
  rw [min_lng hp u (by show u.all (okB (preD (minD b) ws).L) = true; rw [hpL]; exact hu)]
  show finQ (preD (minD b) ws) (runI (preD (minD b) ws) (minD b).s u) = true ↔ _
  rw [pre_run hm h u _ hm.s hu]
  show finQ (minD b) (runI (minD b) (minD b).s (hW ws u)) = true ↔ _
  rw [min_lng hb (hW ws u) (h.h u hu)]
  rfl
/-! ### the image: a chain of states for each transition -/
/-- the number of states inside the images of the first x letters -/
def inr (ws : List (List UInt8)) : Nat → Nat
  | 0 => 0
  | x + 1 => inr ws x + ((ws.getD x []).length - 1)
theorem inr_mono (ws : List (List UInt8)) {x y : Nat} (h : x ≤ y) : inr ws x ≤ inr ws y := by
  induction h with
  | refl => exact Nat.le_refl _
  | step _ ih => exact Nat.le_trans ih (Nat.le_add_right _ _)
/-- the state behind j letters of the image of x, from p -/
def stI (n : Nat) (ws : List (List UInt8)) (p x j : Nat) : Nat := if j = 0 then p else n + p * inr ws ws.length + inr ws x + (j - 1)
/-- the first j edges of the chain of x from p; its last edge -/
def chI (n : Nat) (ws : List (List UInt8)) (p x j : Nat) : List Edg := (List.range j).map fun (i : Nat) => ((stI n ws p x i : Int), (((ws.getD x []).getD i 0).toNat : Int) - 97, (stI n ws p x (i + 1) : Int))
def laI (d : Dfa) (ws : List (List UInt8)) (p x : Nat) : Edg := ((stI d.fin.length ws p x ((ws.getD x []).length - 1) : Int), (((ws.getD x []).getD ((ws.getD x []).length - 1) 0).toNat : Int) - 97, stepQ d (p : Int) x)
def roI (d : Dfa) (ws : List (List UInt8)) (p : Nat) : Nat → List Edg
  | 0 => []
  | x + 1 => roI d ws p x ++ chI d.fin.length ws p x ((ws.getD x []).length - 1) ++ [laI d ws p x]
def imI (d : Dfa) (ws : List (List UInt8)) : Nat → List Edg
  | 0 => []
  | p + 1 => imI d ws p ++ roI d ws p ws.length
theorem chI_next (n : Nat) (ws : List (List UInt8)) (p x j : Nat) : chI n ws p x (j + 1) = chI n ws p x j ++ [((stI n ws p x j : Int), (((ws.getD x []).getD j 0).toNat : Int) - 97, (stI n ws p x (j + 1) : Int))] := by simp [chI, List.range_succ]
theorem chI_len (n : Nat) (ws : List (List UInt8)) (p x j : Nat) : (chI n ws p x j).length = j := by simp [chI]
def stE (d : Dfa) (ws : List (List UInt8)) (p x j : Nat) : Int := if j = (ws.getD x []).length then stepQ d (p : Int) x else (stI d.fin.length ws p x j : Int)
def edI (d : Dfa) (ws : List (List UInt8)) (p x j : Nat) : Edg := ((stI d.fin.length ws p x j : Int), (((ws.getD x []).getD j 0).toNat : Int) - 97, stE d ws p x (j + 1))
theorem mem_roI {d : Dfa} {ws : List (List UInt8)} {p : Nat} {e : Edg} (hne : ∀ i, i < ws.length → 0 < (ws.getD i []).length) : ∀ k, k ≤ ws.length → (e ∈ roI d ws p k ↔ ∃ x j, x < k ∧ j < (ws.getD x []).length ∧ e = edI d ws p x j)
  | 0, _ => by simp [roI]
  | k + 1, hk => by
    have ih := mem_roI (d := d) (p := p) (e := e) hne k (by omega)
    have h0 := hne k (by omega)
    simp only [roI, List.mem_append, ih, List.mem_singleton, chI, List.mem_map, List.mem_range]
    constructor
    · rintro ((⟨x, j, a, b, c⟩ | ⟨j, a, rfl⟩) | rfl)
      · exact ⟨x, j, by omega, b, c⟩
      · refine ⟨k, j, by omega, by omega, ?_⟩
        unfold edI stE; rw [if_neg (by omega)]
      · refine ⟨k, (ws.getD k []).length - 1, by omega, by omega, ?_⟩
        unfold edI stE laI; rw [if_pos (by omega)]
    · rintro ⟨x, j, a, b, rfl⟩
      by_cases hxk : x = k
      · subst hxk
        by_cases hj : j = (ws.getD x []).length - 1
        · right; subst hj; unfold edI stE laI; rw [if_pos (by omega)]
        · left; right; refine ⟨j, by omega, ?_⟩; unfold edI stE; rw [if_neg (by omega)]
      · exact .inl (.inl ⟨x, j, by omega, b, rfl⟩)
theorem mem_imI {d : Dfa} {ws : List (List UInt8)} {e : Edg} (hne : ∀ i, i < ws.length → 0 < (ws.getD i []).length) : ∀ k, e ∈ imI d ws k ↔ ∃ p x j, p < k ∧ x < ws.length ∧ j < (ws.getD x []).length ∧ e = edI d ws p x j
  | 0 => by simp [imI]
  | k + 1 => by
    have ih := mem_imI (d := d) (e := e) hne k
    simp only [imI, List.mem_append, ih, mem_roI hne ws.length (Nat.le_refl _)]
    constructor
    · rintro (⟨p, x, j, a, b⟩ | ⟨x, j, a, b⟩)
      · exact ⟨p, x, j, by omega, b⟩
      · exact ⟨k, x, j, by omega, a, b⟩
    · rintro ⟨p, x, j, a, b⟩
      by_cases hpk : p = k
      · subst hpk; exact .inr ⟨x, j, b⟩
      · exact .inl ⟨p, x, j, by omega, b⟩
theorem stI_bd {n : Nat} {ws : List (List UInt8)} {p x j : Nat} (hp : p < n) (hx : x < ws.length) (hj : j < (ws.getD x []).length) : stI n ws p x j < n * (1 + inr ws ws.length) := by
  unfold stI
  have h1 := inr_mono ws (show x + 1 ≤ ws.length from hx)
  simp only [inr] at h1
  have h2 : p * inr ws ws.length + inr ws ws.length ≤ n * inr ws ws.length := by
    rw [← Nat.succ_mul]; exact Nat.mul_le_mul_right _ hp
  rw [Nat.mul_add, Nat.mul_one]
  split
  · omega
  · omega
/-- the states inside are told apart -/
theorem stI_inj {n : Nat} {ws : List (List UInt8)} {p x j p' x' j' : Nat} (hp : p < n) (hp' : p' < n) (hx : x < ws.length) (hx' : x' < ws.length) (hj : j < (ws.getD x []).length) (hj' : j' < (ws.getD x' []).length) (h : stI n ws p x j = stI n ws p' x' j') :
    (j = 0 ∧ j' = 0 ∧ p = p') ∨ (0 < j ∧ p = p' ∧ x = x' ∧ j = j') := by
  unfold stI at h
  have h1 := inr_mono ws (show x + 1 ≤ ws.length from hx)
  have h1' := inr_mono ws (show x' + 1 ≤ ws.length from hx')
  simp only [inr] at h1 h1'
  by_cases hj0 : j = 0
  · rw [if_pos hj0] at h
    by_cases hj0' : j' = 0
    · rw [if_pos hj0'] at h; exact .inl ⟨hj0, hj0', h⟩
    · rw [if_neg hj0'] at h
      have := Nat.zero_le (p' * inr ws ws.length); omega
  · rw [if_neg hj0] at h
    by_cases hj0' : j' = 0
    · rw [if_pos hj0'] at h
      have := Nat.zero_le (p * inr ws ws.length); omega
    · rw [if_neg hj0'] at h
      right
      have hp2 : p = p' := by
        rcases Nat.lt_trichotomy p p' with h2 | h2 | h2
        · have : (p + 1) * inr ws ws.length ≤ p' * inr ws ws.length := Nat.mul_le_mul_right _ h2
          rw [Nat.succ_mul] at this; omega
        · exact h2
        · have : (p' + 1) * inr ws ws.length ≤ p * inr ws ws.length := Nat.mul_le_mul_right _ h2
          rw [Nat.succ_mul] at this; omega
      subst hp2
      have hx2 : x = x' := by
        rcases Nat.lt_trichotomy x x' with h2 | h2 | h2
        · have := inr_mono ws (show x + 1 ≤ x' from h2); simp only [inr] at this; omega
        · exact h2
        · have := inr_mono ws (show x' + 1 ≤ x from h2); simp only [inr] at this; omega
      subst hx2
      exact ⟨by omega, rfl, rfl, by omega⟩
def imN (m : Dfa) (M : Int) (ws : List (List UInt8)) : Nfa := ⟨M, (m.fin.length * (1 + inr ws ws.length) : Nat), bit m.s, orF 0 m.fin 0 m.fin.length, imI m ws m.fin.length⟩
section
variable {m : Dfa} {M : Int} {ws : List (List UInt8)}
theorem img_to (hv : VD m) (h : WsOk m.L M ws) (hne : ∀ i, i < ws.length → 0 < (ws.getD i []).length) {r : Int} (hr : 0 ≤ r ∧ r < m.fin.length) {s : Int} {v : List UInt8} (hp : Pth (imI m ws m.fin.length) s v r) :
    (∀ p : Nat, p < m.fin.length → s = (p : Int) → ∃ u : List UInt8, u.all (okB m.L) = true ∧ v = hW ws u ∧ runI m (p : Int) u = r) ∧
    (∀ p x j : Nat, p < m.fin.length → x < ws.length → 0 < j → j < (ws.getD x []).length → s = (stI m.fin.length ws p x j : Int) → ∃ u : List UInt8, u.all (okB m.L) = true ∧ v = (ws.getD x []).drop j ++ hW ws u ∧ runI m (stepQ m (p : Int) x) u = r) := by
  induction hp with
  | nil s =>
    refine ⟨fun p hp e => ⟨[], rfl, rfl, by rw [← e]; rfl⟩, fun p x j hp hx h0 hj e => ?_⟩
    exfalso
    unfold stI at e
    rw [if_neg (by omega)] at e
    have := Nat.zero_le (p * inr ws ws.length); omega
  | @cons s q r c l he t ih =>
    obtain ⟨ih1, ih2⟩ := ih hr
    obtain ⟨p', x', j', a1, a2, a3, e⟩ := (mem_imI hne _).1 he
    simp only [edI, Prod.mk.injEq] at e
    obtain ⟨e1, e2, e3⟩ := e
    have hc : c = (ws.getD x' []).getD j' 0 := by
      have : c.toNat = ((ws.getD x' []).getD j' 0).toNat := by omega
      exact UInt8.toNat_inj.1 this
    have hdrop : (ws.getD x' []).drop j' = c :: (ws.getD x' []).drop (j' + 1) := by rw [hc]; exact drop_consD 0 a3
    -- what follows behind that edge
    have key : ∃ u : List UInt8, u.all (okB m.L) = true ∧ l = (ws.getD x' []).drop (j' + 1) ++ hW ws u ∧ runI m (stepQ m (p' : Int) x') u = r := by
      unfold stE at e3
      by_cases hl : j' + 1 = (ws.getD x' []).length
      · rw [if_pos hl] at e3
        have hto := stepQ_inr hv (q := (p' : Int)) ⟨by omega, by omega⟩ (x := x') (by have := h.len; omega)
        obtain ⟨u, b1, b2, b3⟩ := ih1 (stepQ m (p' : Int) x').toNat (by have := hto.2; have := hto.1; omega) (by rw [e3]; have := hto.1; omega)
        refine ⟨u, b1, by rw [List.drop_of_length_le (by omega)]; exact b2, ?_⟩
        have := hto.1
        rw [show (((stepQ m (p' : Int) x').toNat : Nat) : Int) = stepQ m (p' : Int) x' by omega] at b3
        exact b3
      · rw [if_neg hl] at e3
        exact ih2 p' x' (j' + 1) a1 a2 (by omega) (by omega) e3
    obtain ⟨u, b1, b2, b3⟩ := key
    refine ⟨fun p hp e => ?_, fun p x j hp hx h0 hj e => ?_⟩
    · have hs : stI m.fin.length ws p' x' j' = p := by omega
      have hj0 : j' = 0 := by
        unfold stI at hs
        split at hs
        · assumption
        · have := Nat.zero_le (p' * inr ws ws.length); omega
      subst hj0
      have hpp : p' = p := by simpa [stI] using hs
      subst hpp
      have hL := h.len
      have hx6 : x' < 6 := by have := h.hL; omega
      refine ⟨ltr x' :: u, ?_, ?_, ?_⟩
      · rw [List.all_cons, okB_ltr h.hL (by omega), b1]; rfl
      · rw [hW_cons, ltr_num (by omega), b2]
        simp only [List.drop_zero] at hdrop
        rw [hdrop]; rfl
      · rw [runI_cons, ltr_num (by omega)]; exact b3
    · have hs : stI m.fin.length ws p x j = stI m.fin.length ws p' x' j' := by omega
      rcases stI_inj hp a1 hx a2 hj a3 hs with ⟨q1, _⟩ | ⟨_, rfl, rfl, rfl⟩
      · omega
      · exact ⟨u, b1, by rw [hdrop, b2]; rfl, b3⟩
theorem img_chain {p x : Nat} (hx : x < ws.length) (hp : p < m.fin.length) (hne : ∀ i, i < ws.length → 0 < (ws.getD i []).length) : ∀ k j, j + k = (ws.getD x []).length → 0 < k → Pth (imI m ws m.fin.length) (stI m.fin.length ws p x j : Int) ((ws.getD x []).drop j) (stepQ m (p : Int) x)
  | 0, j, _, h0 => by omega
  | k + 1, j, hk, _ => by
    have hd : (ws.getD x []).drop j = (ws.getD x []).getD j 0 :: (ws.getD x []).drop (j + 1) := drop_consD 0 (by omega)
    rw [hd]
    refine .cons (q := stE m ws p x (j + 1)) ((mem_imI hne _).2 ⟨p, x, j, hp, hx, by omega, rfl⟩) ?_
    unfold stE
    by_cases h1 : j + 1 = (ws.getD x []).length
    · rw [if_pos h1, List.drop_of_length_le (by omega)]; exact .nil _
    · rw [if_neg h1]; exact img_chain hx hp hne k (j + 1) (by omega) (by omega)
theorem img_from (hv : VD m) (h : WsOk m.L M ws) (hne : ∀ i, i < ws.length → 0 < (ws.getD i []).length) : ∀ (u : List UInt8) (p : Int), 0 ≤ p ∧ p < m.fin.length → u.all (okB m.L) = true → Pth (imI m ws m.fin.length) p (hW ws u) (runI m p u)
  | [], p, _, _ => .nil p
  | c :: u, p, hp, hu => by
    rw [List.all_cons, Bool.and_eq_true] at hu
    have hc := okB_lt hu.1
    have hL := h.len
    have hx : ((c.toNat : Int) - 97).toNat < ws.length := by omega
    rw [hW_cons, runI_cons]
    have h1 := img_chain (m := m) (p := p.toNat) hx (by omega) hne (ws.getD ((c.toNat : Int) - 97).toNat []).length 0 (by omega) (hne _ hx)
    rw [show ((stI m.fin.length ws p.toNat ((c.toNat : Int) - 97).toNat 0 : Nat) : Int) = p by simp [stI]; omega, show ((p.toNat : Nat) : Int) = p by omega, List.drop_zero] at h1
    exact h1.app (img_from hv h hne u _ (stepQ_inr hv hp (by omega)) hu.2)
theorem im_wn (hv : VD m) (h : WsOk m.L M ws) (hne : ∀ i, i < ws.length → 0 < (ws.getD i []).length) (hS : m.fin.length * (1 + inr ws ws.length) ≤ 64) : WN (imN m M ws) where
  L := h.hM
  S := by have e : (imN m M ws).S = ((m.fin.length * (1 + inr ws ws.length) : Nat) : Int) := rfl
          rw [e]; omega
  st i hi := by
    have hs := hv.s
    have hn : m.fin.length ≤ m.fin.length * (1 + inr ws ws.length) := Nat.le_mul_of_pos_right _ (by omega)
    have hi : (bit m.s).getLsbD i = true := hi
    rw [bit_get (by omega), decide_eq_true_eq] at hi
    show (i : Int) < ((m.fin.length * (1 + inr ws ws.length) : Nat) : Int)
    omega
  fi i hi := by
    have hn : m.fin.length ≤ m.fin.length * (1 + inr ws ws.length) := Nat.le_mul_of_pos_right _ (by omega)
    obtain ⟨q, h1, h2, h3⟩ := (orF_get (l := m.fin) (off := 0) i m.fin.length (by omega)).1 hi
    show (i : Int) < ((m.fin.length * (1 + inr ws ws.length) : Nat) : Int)
    omega
  ed e he := by
    obtain ⟨p, x, j, a1, a2, a3, rfl⟩ := (mem_imI hne _).1 he
    have hn : m.fin.length ≤ m.fin.length * (1 + inr ws ws.length) := Nat.le_mul_of_pos_right _ (by omega)
    have hb := stI_bd a1 a2 a3
    have hcw := h.all a2
    have hc : okB M ((ws.getD x []).getD j 0) = true := by
      rw [List.all_eq_true] at hcw
      exact hcw _ (getD_mem a3)
    have hc := okB_lt hc
    show (0 ≤ ((stI m.fin.length ws p x j : Nat) : Int) ∧ ((stI m.fin.length ws p x j : Nat) : Int) < ((m.fin.length * (1 + inr ws ws.length) : Nat) : Int)) ∧ (0 ≤ (((ws.getD x []).getD j 0).toNat : Int) - 97 ∧ (((ws.getD x []).getD j 0).toNat : Int) - 97 < M) ∧ (0 ≤ stE m ws p x (j + 1) ∧ stE m ws p x (j + 1) < ((m.fin.length * (1 + inr ws ws.length) : Nat) : Int))
    refine ⟨by omega, by omega, ?_⟩
    unfold stE
    split
    · have hto := stepQ_inr hv (q := (p : Int)) ⟨by omega, by omega⟩ (x := x) (by have := h.len; omega)
      have := hto.1; have := hto.2; omega
    · have := stI_bd a1 a2 (show j + 1 < (ws.getD x []).length by omega); omega
theorem im_acc (hv : VD m) (h : WsOk m.L M ws) (hne : ∀ i, i < ws.length → 0 < (ws.getD i []).length) (hS : m.fin.length * (1 + inr ws ws.length) ≤ 64) (v : List UInt8) : AccP (imN m M ws) v ↔ ∃ u : List UInt8, u.all (okB m.L) = true ∧ v = hW ws u ∧ langD m u := by
  have hs := hv.s
  have hn : m.fin.length ≤ m.fin.length * (1 + inr ws ws.length) := Nat.le_mul_of_pos_right _ (by omega)
  unfold AccP langD
  constructor
  · rintro ⟨p, q, hp, hq, h1, h2, h3⟩
    have h1 : (bit m.s).getLsbD p = true := h1
    rw [bit_get (by omega), decide_eq_true_eq] at h1
    obtain ⟨q', b1, b2, b3⟩ := (orF_get (l := m.fin) (off := 0) q m.fin.length (by omega)).1 h2
    have hqq : q' = q := by omega
    subst hqq
    obtain ⟨u, c1, c2, c3⟩ := (img_to hv h hne (r := (q' : Int)) ⟨by omega, by omega⟩ h3).1 p (by omega) rfl
    refine ⟨u, c1, c2, ?_⟩
    rw [← h1, c3]; unfold finQ; rw [Int.toNat_natCast]; exact b2
  · rintro ⟨u, h1, rfl, h2⟩
    have hr := runI_inr hv u m.s hs h1
    have h3 := img_from hv h hne u m.s hs h1
    refine ⟨m.s.toNat, (runI m m.s u).toNat, by omega, by have := hr.2; omega, ?_, ?_, ?_⟩
    · show (bit m.s).getLsbD _ = true
      rw [bit_get (by omega), decide_eq_true_eq]; omega
    · refine (orF_get (l := m.fin) (off := 0) _ m.fin.length (by omega)).2 ⟨(runI m m.s u).toNat, by have := hr.2; have := hr.1; omega, ?_, by omega⟩
      exact h2
    · have := hr.1
      rw [show ((m.s.toNat : Nat) : Int) = m.s by omega, show (((runI m m.s u).toNat : Nat) : Int) = runI m m.s u by omega]
      exact h3
end
/-! the numbers of the states as they are handed out -/
def nxI (n : Nat) (ws : List (List UInt8)) (p x : Nat) : Nat := n + p * inr ws ws.length + inr ws x
theorem nxI_x (n : Nat) (ws : List (List UInt8)) (p x : Nat) : nxI n ws p (x + 1) = nxI n ws p x + ((ws.getD x []).length - 1) := by simp only [nxI, inr]; omega
theorem nxI_p (n : Nat) (ws : List (List UInt8)) (p : Nat) : nxI n ws (p + 1) 0 = nxI n ws p ws.length := by simp only [nxI, inr]; rw [Nat.succ_mul]; omega
theorem stI_next (n : Nat) (ws : List (List UInt8)) (p x i : Nat) : stI n ws p x (i + 1) = nxI n ws p x + i := by simp [stI, nxI]
theorem roI_len {d : Dfa} {ws : List (List UInt8)} {p : Nat} (hne : ∀ i, i < ws.length → 0 < (ws.getD i []).length) : ∀ x, x ≤ ws.length → (roI d ws p x).length = inr ws x + x
  | 0, _ => rfl
  | x + 1, h => by
    have := roI_len (d := d) (p := p) hne x (by omega)
    have := hne x (by omega)
    simp only [roI, inr, List.length_append, chI_len, List.length_singleton]; omega
theorem imI_len {d : Dfa} {ws : List (List UInt8)} (hne : ∀ i, i < ws.length → 0 < (ws.getD i []).length) : ∀ k, (imI d ws k).length = k * (inr ws ws.length + ws.length)
  | 0 => by simp [imI]
  | k + 1 => by simp only [imI, List.length_append, imI_len hne k, roI_len hne ws.length (Nat.le_refl _)]; rw [Nat.succ_mul]
theorem lng_img {d e : Dfa} {er : Int} (hv : VD d) {M : Int} {ws : List (List UInt8)} (h : WsOk d.L M ws) (hne : ∀ i, i < ws.length → 0 < (ws.getD i []).length) (hS : (minD d).fin.length * (1 + inr ws ws.length) ≤ 64) (hl : LngOk M (AccP (imN (minD d) M ws)) e er) :
    LngOk M (fun v => ∃ u : List UInt8, u.all (okB d.L) = true ∧ v = hW ws u ∧ langD d u) e er := by
  rcases hl with h1 | ⟨h1, h2, h3, h4, h5⟩
  · exact .inl h1
  · refine .inr ⟨h1, h2, h3, h4, fun l hl => ?_⟩
    rw [h5 l hl, im_acc (m := minD d) (min_vd hv) h hne hS l]
    constructor
    · rintro ⟨u, a, b, c⟩
      refine ⟨u, a, b, ?_⟩
      have := min_lng hv u a; unfold langD at c ⊢; rw [← this]; exact c
    · rintro ⟨u, a, b, c⟩
      refine ⟨u, a, b, ?_⟩
      have := min_lng hv u a; unfold langD at c ⊢; rw [this]; exact c
end Go.Sx

namespace Go.Proofs.YtbibnpdnmmgacaaGreatDoor
open Go.Sx Go.RowKit
set_option maxHeartbeats 400000 in
theorem a_minimal (w : World) (v : Value) (d : Dfa) (h : RdD (fun _ => False) w v d) (hv : VD d) : CallS Tryz.prog 69 [v] w (fun r o => ∃ (vF vN : Value) (rs : List Value), rs.length = (minD d).nx.length ∧ IsSl vF ∧ IsSl vN ∧ r = .tuple #[.agg #[.int .i64 (minD d).L, .int .i64 (minD d).s, vF, vN], .int .i64 0] ∧ o = dfaO 4 3 67 vF vN rs (minD d)) := by
 have h0 := h
 obtain ⟨vF, vN, rfl, hF, hN⟩ := h
 have hF0 := hF
 have hN0 := hN
 obtain ⟨rs, hrl, hNr, hNi⟩ := hN
 have sF := hF.sl
 have sN := hNr.sl
 have hmf := hF.le
 have hmn := hNr.le
 unfold RdL at hF
 have hE : errV d = 0 := (errV_iff d).2 hv
 have hM : MinV d = minD d := if_pos hv
 refine spec_of Tryz.func69 rfl (leb rfl) ?_
 refine .sr fun _ hK1 => ?_
 refine AK.box_ (E := 32) (cs := [.int .i64 d.L, .int .i64 d.s, vF, vN]) rfl rfl rfl trivial rfl (fun bx1 => ?_)
 refine AK.alloc el32 rfl rfl trivial rfl (fun bx2 => ?_)
 refine .as rfl (.nt hK1 ?_)
 refine .seq fun _ hK2 => ?_
 refine .sr fun _ hK3 => ?_
 refine .v (.loadBoxG ag32 rfl bsp rfl rfl) ?_
 refine AK.call co23 rfl (fun w hw => s_validate w _ d (h0.at hw)) trivial rfl ?_
 rintro r o ⟨rfl, rfl⟩
 refine .as rfl (.nt hK3 ?_)
 refine .sr fun _ hK4 => ?_
 refine .mv rfl (.v (.neq rfl rfl) (.nt hK4 ?_))
 refine AK.cond_f rfl (decide_eq_false (by omega)) ?_
 refine .skip ?_
 refine AK.then_ (hK2 _ ?_)
 refine .sr fun _ hK5 => ?_
 refine .v (.loadBoxG ag32 rfl bsp rfl rfl) ?_
 refine AK.call co15 rfl (fun w hw => s_min w _ d (h0.at hw)) trivial rfl ?_
 rintro r o ⟨mF, mN, mrs, rfl, hmrs, smF, smN, rfl⟩
 rw [hM] at hmrs ⊢
 refine AK.storeBox 1 (us := [.int .i64 (minD d).L, .int .i64 (minD d).s, mF, mN]) (cs' := [.int .i64 (minD d).L, .int .i64 (minD d).s, mF, mN]) rfl sz32 rfl rfl rfl rfl oneP (leb rfl) rfl trivial ?_
 refine .as rfl (.nt hK5 (.ret ?_))
 refine AK.retG [.cell 2 32, .tmp 3] rfl (.cons (.cell ag32 rfl bsp rfl rfl) (.cons (.tmp rfl) (.nil))) (fun w hw => ⟨_, _, ?_, rfl, Ret.of (hw.pick [2, 3, 4] (by decide) rfl rfl)⟩)
 exact ⟨mF, mN, mrs, hmrs, smF, smN, rfl, rfl⟩

set_option maxHeartbeats 1000000 in
theorem a_both (w : World) (u v : Value) (a b : Dfa) (hu : RdD (fun _ => False) w u a) (hw0 : RdD (fun _ => False) w v b) (ha : VD a) (hb : VD b) (hL : a.L = b.L) : CallS Tryz.prog 62 [u, v] w (fun r o => ∃ (pF pN qF qN : Value) (prs qrs : List Value), prs.length = (minD a).nx.length ∧ qrs.length = (minD b).nx.length ∧ IsSl pF ∧ IsSl pN ∧ IsSl qF ∧ IsSl qN ∧ r = .tuple #[.agg #[.int .i64 (minD a).L, .int .i64 (minD a).s, pF, pN], .agg #[.int .i64 (minD b).L, .int .i64 (minD b).s, qF, qN], .int .i64 0] ∧ o = dfaO 4 3 67 pF pN prs (minD a) ++ dfaO 4 3 67 qF qN qrs (minD b)) := by
 have hu0 := hu
 have hv0 := hw0
 obtain ⟨uF, uN, rfl, huF, huN⟩ := hu
 obtain ⟨vF, vN, rfl, hvF, hvN⟩ := hw0
 have hEa : errV a = 0 := (errV_iff a).2 ha
 have hEb : errV b = 0 := (errV_iff b).2 hb
 have hMa : MinV a = minD a := if_pos ha
 have hMb : MinV b = minD b := if_pos hb
 have suF := huF.sl
 have suN : IsSl uN := (by obtain ⟨_, _, h, _⟩ := huN; exact h.sl)
 have svF := hvF.sl
 have svN : IsSl vN := (by obtain ⟨_, _, h, _⟩ := hvN; exact h.sl)
 refine spec_of Tryz.func62 rfl (leb rfl) ?_
 refine .sr fun _ hK1 => ?_
 refine AK.box_ (E := 32) (cs := [.int .i64 a.L, .int .i64 a.s, uF, uN]) rfl rfl rfl trivial rfl (fun bx2 => ?_)
 refine AK.box_ (E := 32) (cs := [.int .i64 b.L, .int .i64 b.s, vF, vN]) rfl rfl rfl trivial rfl (fun bx3 => ?_)
 refine AK.alloc el32 rfl rfl trivial rfl (fun bx4 => ?_)
 refine AK.alloc el32 rfl rfl trivial rfl (fun bx5 => ?_)
 refine .as rfl (.nt hK1 ?_)
 refine .seq fun _ hK2 => ?_
 refine .sr fun _ hK3 => ?_
 refine .v (.loadBoxG ag32 rfl bsp rfl rfl) ?_
 refine AK.call co23 rfl (fun w hw => s_validate w _ a (hu0.at hw)) trivial rfl ?_
 rintro r o ⟨rfl, rfl⟩
 refine .as rfl (.nt hK3 ?_)
 refine .sr fun _ hK4 => ?_
 refine .mv rfl (.v (.neq rfl rfl) (.nt hK4 ?_))
 refine AK.cond_f rfl (decide_eq_false (by omega)) ?_
 refine .skip ?_
 refine AK.then_ (hK2 _ ?_)
 refine .seq fun _ hK5 => ?_
 refine .sr fun _ hK6 => ?_
 refine .v (.loadBoxG ag32 rfl bsp rfl rfl) ?_
 refine AK.call co23 rfl (fun w hw => s_validate w _ b (hv0.at hw)) trivial rfl ?_
 rintro r o ⟨rfl, rfl⟩
 refine .as rfl (.nt hK6 ?_)
 refine .sr fun _ hK7 => ?_
 refine .mv rfl (.v (.neq rfl rfl) (.nt hK7 ?_))
 refine AK.cond_f rfl (decide_eq_false (by omega)) ?_
 refine .skip ?_
 refine AK.then_ (hK5 _ ?_)
 refine .seq fun _ hK8 => ?_
 refine .sr fun _ hK9 => ?_
 refine .v (.fieldAddr fd32_0 rfl) (.v (.loadBox on3 rfl bsp rfl) (.v (.fieldAddr fd32_0 rfl) (.v (.loadBox on3 rfl bsp rfl) (.v (.neq rfl rfl) (.nt hK9 ?_)))))
 refine AK.cond_f rfl (decide_eq_false (by omega)) ?_
 refine .skip ?_
 refine AK.then_ (hK8 _ ?_)
 refine .seq fun _ hK10 => ?_
 refine AK.joinK (X := Value × Value × List Value × Value × Value × List Value) [(4, _), (5, _)] (fun z => [(6, .int .i64 0)]) (fun z => ([box bx2 32 4 [.int .i64 a.L, .int .i64 a.s, uF, uN], box bx3 32 4 [.int .i64 b.L, .int .i64 b.s, vF, vN], box bx4 32 4 [.int .i64 (minD a).L, .int .i64 (minD a).s, z.1, z.2.1], box bx5 32 4 [.int .i64 (minD b).L, .int .i64 (minD b).s, z.2.2.2.1, z.2.2.2.2.1]] ++ dfaO 4 3 67 z.1 z.2.1 z.2.2.1 (minD a) ++ dfaO 4 3 67 z.2.2.2.1 z.2.2.2.2.1 z.2.2.2.2.2 (minD b))) (fun z => z.2.2.1.length = (minD a).nx.length ∧ z.2.2.2.2.2.length = (minD b).nx.length ∧ IsSl z.1 ∧ IsSl z.2.1 ∧ IsSl z.2.2.2.1 ∧ IsSl z.2.2.2.2.1) slr (fun _ hJ => ?_) (fun z hg => ?_)
 ·try (conv => enter [2, 2]; simp only [nrm])
  refine AK.held 4 mixed ?_
  refine HeldK.first 0 (fuel := 6) (listed' := (lb 7 1)) _ rfl krf krf rfl (Yl.loadBoxG ag32 rfl bsp rfl rfl) trivial rfl ?_
  refine HeldK.first 2 (fuel := 5) (listed' := (lb 7 5)) _ rfl krf krf rfl (Yl.loadBoxG ag32 rfl bsp rfl rfl) trivial rfl ?_
  refine HeldK.one 1 (fuel := 4) (listed' := (lb 7 7)) krf rfl krf ?_
  refine AK.call co15 rfl (fun w hw => s_min w _ a (hu0.at hw)) trivial rfl ?_
  rintro r o ⟨pF, pN, prs, rfl, hprs, spF, spN, rfl⟩
  rw [hMa] at hprs ⊢
  refine .nil ?_
  try (conv => enter [2, 2]; simp only [nrm])
  refine HeldK.back Go.Sx.hle ?_
  refine HeldK.one 3 (fuel := 3) (listed' := (lb 7 15)) krf rfl krf ?_
  refine AK.call co15 rfl (fun w hw => s_min w _ b (hv0.at hw)) trivial rfl ?_
  rintro r o ⟨qF, qN, qrs, rfl, hqrs, sqF, sqN, rfl⟩
  rw [hMb] at hqrs ⊢
  refine .nil ?_
  try (conv => enter [2, 2]; simp only [nrm])
  refine HeldK.back Go.Sx.hle ?_
  refine HeldK.one 4 (fuel := 2) (listed' := (lb 7 31)) krf rfl krf ?_
  refine AK.storeBox 2 (us := [.int .i64 (minD a).L, .int .i64 (minD a).s, pF, pN]) (cs' := [.int .i64 (minD a).L, .int .i64 (minD a).s, pF, pN]) rfl sz32 rfl rfl rfl rfl oneP (leb rfl) rfl trivial ?_
  refine .nil ?_
  try (conv => enter [2, 2]; simp only [nrm])
  refine HeldK.backN 5 krf rfl krf ?_
  refine AK.storeBox 3 (us := [.int .i64 (minD b).L, .int .i64 (minD b).s, qF, qN]) (cs' := [.int .i64 (minD b).L, .int .i64 (minD b).s, qF, qN]) rfl sz32 rfl rfl rfl rfl oneP (leb rfl) rfl trivial ?_
  refine .as rfl (.nil ?_)
  refine AK.fromQn ?_
  exact hJ _ _ ((pF, pN, prs, qF, qN, qrs)) ⟨hprs, hqrs, spF, spN, sqF, sqN⟩ (slr) (fun w hw => by first | exact hw.pickLe [0, 1, 2, 3, 4, 5, 6, 7, 8, 9] (by decide) pkl | exact hw.pickLe [0, 1, 2, 3, 7, 8, 9, 4, 5, 6] (by decide) pkl)
 ·skip
  refine AK.then_ (hK10 _ ?_)
  refine .ret ?_
  refine AK.retG [.cell 4 32, .cell 5 32, .tmp 6] rfl (.cons (.cell ag32 rfl bsp rfl rfl) (.cons (.cell ag32 rfl bsp rfl rfl) (.cons (.tmp rfl) (.nil)))) (fun w hw => ⟨_, _, ?_, rfl, Ret.of (hw.pick [4, 5, 6, 7, 8, 9] (by decide) rfl rfl)⟩)
  exact ⟨z.1, z.2.1, z.2.2.2.1, z.2.2.2.2.1, z.2.2.1, z.2.2.2.2.2, hg.1, hg.2.1, hg.2.2.1, hg.2.2.2.1, hg.2.2.2.2.1, hg.2.2.2.2.2, rfl, rfl⟩

set_option maxHeartbeats 1000000 in
theorem a_combine (w : World) (u v : Value) (a b : Dfa) (hu : RdD (fun _ => False) w u a) (hw0 : RdD (fun _ => False) w v b) (ha : VD a) (hb : VD b) (op : Int) (ho : 0 ≤ op ∧ op ≤ 15) (hL : a.L = b.L) : CallS Tryz.prog 28 [u, v, .int .i64 op] w (fun r o => ∃ (d9 : Dfa) (e : Int) (vF vN : Value) (rs : List Value), LngOk a.L (fun l => byB op (finQ a (runI a a.s l)) (finQ b (runI b b.s l)) = true) d9 e ∧ rs.length = d9.nx.length ∧ IsSl vF ∧ IsSl vN ∧ r = .tuple #[.agg #[.int .i64 d9.L, .int .i64 d9.s, vF, vN], .int .i64 e] ∧ o = dfaO 4 3 67 vF vN rs d9) := by
 have hu0 := hu
 have hv0 := hw0
 obtain ⟨uF, uN, rfl, huF, huN⟩ := hu
 obtain ⟨vF, vN, rfl, hvF, hvN⟩ := hw0
 have hEa : errV a = 0 := (errV_iff a).2 ha
 have hEb : errV b = 0 := (errV_iff b).2 hb
 have hMa : MinV a = minD a := if_pos ha
 have hMb : MinV b = minD b := if_pos hb
 have suF := huF.sl
 have suN : IsSl uN := (by obtain ⟨_, _, h, _⟩ := huN; exact h.sl)
 have svF := hvF.sl
 have svN : IsSl vN := (by obtain ⟨_, _, h, _⟩ := hvN; exact h.sl)
 refine spec_of Tryz.func28 rfl (leb rfl) ?_
 refine .sr fun _ hK1 => ?_
 refine AK.box_ (E := 32) (cs := [.int .i64 a.L, .int .i64 a.s, uF, uN]) rfl rfl rfl trivial rfl (fun bx3 => ?_)
 refine AK.box_ (E := 32) (cs := [.int .i64 b.L, .int .i64 b.s, vF, vN]) rfl rfl rfl trivial rfl (fun bx4 => ?_)
 refine AK.alloc el32 rfl rfl trivial rfl (fun bx6 => ?_)
 refine .as rfl (.nt hK1 ?_)
 refine .sr fun _ hK2 => ?_
 refine .v (.loadBoxG ag32 rfl bsp rfl rfl) (.v (.loadBoxG ag32 rfl bsp rfl rfl) ?_)
 refine AK.call co62 rfl (fun w hw => a_both w _ _ a b (hu0.at hw) (hv0.at hw) ha hb hL) trivial rfl ?_
 rintro r o ⟨pF, pN, qF, qN, prs, qrs, hprs, hqrs, spF, spN, sqF, sqN, rfl, rfl⟩
 conv => enter [2, 2]; dsimp only [dfaO, List.set_cons_zero, List.set_cons_succ, List.cons_append, List.nil_append]
 refine .mv rfl (.v (.extract rfl rfl) (.v (.extract rfl rfl) (.v (.extract rfl rfl) ?_)))
 refine AK.alloc el32 rfl rfl trivial rfl (fun bx8 => ?_)
 refine AK.alloc el32 rfl rfl trivial rfl (fun bx9 => ?_)
 refine AK.storeBox 9 (us := [.int .i64 (minD a).L, .int .i64 (minD a).s, pF, pN]) (cs' := [.int .i64 (minD a).L, .int .i64 (minD a).s, pF, pN]) rfl sz32 rfl rfl rfl rfl oneP (leb rfl) rfl trivial ?_
 refine AK.storeBox 10 (us := [.int .i64 (minD b).L, .int .i64 (minD b).s, qF, qN]) (cs' := [.int .i64 (minD b).L, .int .i64 (minD b).s, qF, qN]) rfl sz32 rfl rfl rfl rfl oneP (leb rfl) rfl trivial ?_
 refine .as rfl (.nt hK2 ?_)
 refine .seq fun _ hK3 => ?_
 refine .sr fun _ hK4 => ?_
 refine .mv rfl (.v (.neq rfl rfl) (.nt hK4 ?_))
 refine AK.cond_f rfl (decide_eq_false (by omega)) ?_
 refine .skip ?_
 refine AK.then_ (hK3 _ ?_)
 refine .sr fun _ hK5 => ?_
 refine .v (.loadBoxG ag32 rfl bsp rfl rfl) (.v (.loadBoxG ag32 rfl bsp rfl rfl) (.mv rfl ?_))
 refine AK.call co73 rfl (fun w hw => s_productL w _ _ (minD a) (minD b) (RdD.own 3 hw hprs rfl rfl rfl) (RdD.own 6 hw hqrs rfl rfl rfl) op (min_vd ha) (min_vd hb) hL ho) trivial rfl ?_
 rintro r o ⟨d, e, vF2, vN2, rs2, hE2, hrs, sF2, sN2, rfl, rfl⟩
 conv => enter [2, 2]; dsimp only [dfaO, List.set_cons_zero, List.set_cons_succ, List.cons_append, List.nil_append]
 refine .mv rfl (.v (.extract rfl rfl) (.v (.extract rfl rfl) ?_))
 refine AK.alloc el32 rfl rfl trivial rfl (fun bx11 => ?_)
 refine AK.storeBox 14 (us := [.int .i64 d.L, .int .i64 d.s, vF2, vN2]) (cs' := [.int .i64 d.L, .int .i64 d.s, vF2, vN2]) rfl sz32 rfl rfl rfl rfl oneP (leb rfl) rfl trivial ?_
 refine .as rfl (.nt hK5 ?_)
 refine .seq fun _ hK6 => ?_
 refine .sr fun _ hK7 => ?_
 refine .mv rfl (.v (.neq rfl rfl) (.nt hK7 ?_))
 refine AK.condNe rfl (fun hc1 => ?_) (fun hc1 => ?_)
 ·refine .sr fun _ hK8 => ?_
  refine .v (.build (parts := []) (cs := #[.int .i64 0, .int .i64 0, .slice none 0 0, .slice none 0 0]) rfl (by kernel_rfl)) ?_
  refine .mv rfl ?_
  refine AK.storeBox 2 (us := [.int .i64 0, .int .i64 0, .slice none 0 0, .slice none 0 0]) (cs' := [.int .i64 0, .int .i64 0, .slice none 0 0, .slice none 0 0]) rfl sz32 rfl rfl rfl rfl oneP (leb rfl) rfl trivial ?_
  refine .as rfl (.nt hK8 (.ret (.then_ret ?_)))
  refine AK.own' (dfaO 4 3 67 (.slice none 0 0) (.slice none 0 0) [] nilD ++ [box bx6 32 4 [.int .i64 0, .int .i64 0, .slice none 0 0, .slice none 0 0]]) (fun w hw => by have h1 := (((hw.pick [2] (by decide) rfl rfl).ghost 4 1).ghost 67 1).ghostG (f := Value.int .i64) 3; exact h1.pick [1, 2, 3, 0] (by decide) rfl rfl) ?_
  refine AK.retG [.cell 6 32, .tmp 7] rfl (.cons (.cell ag32 rfl bsp rfl rfl) (.cons (.tmp rfl) (.nil))) (fun w hw => ⟨_, _, ?_, rfl, Ret.of (hw.pick [0, 1, 2] (by decide) rfl rfl)⟩)
  rcases hE2 with ⟨h1, h2⟩ | ⟨h1, h2⟩
  ·exact ⟨nilD, e, _, _, [], .inl ⟨h1, rfl⟩, rfl, nilSl, nilSl, rfl, rfl⟩
  ·exact absurd h1 hc1
 ·rcases hE2 with ⟨h1, h2⟩ | ⟨h1, h2⟩
  ·exact absurd (h1.symm.trans hc1) (by decide)
  have hM : MinV d = minD d := if_pos h2.vd
  refine .skip ?_
  refine AK.then_ (hK6 _ ?_)
  refine .sr fun _ hK9 => ?_
  refine .v (.loadBoxG ag32 rfl bsp rfl rfl) ?_
  refine AK.call co15 rfl (fun w hw => s_min w _ d (RdD.own 11 hw hrs rfl rfl rfl)) trivial rfl ?_
  rintro r o ⟨mF, mN, mrs, rfl, hmrs, smF, smN, rfl⟩
  rw [hM] at hmrs ⊢
  conv => enter [2, 2]; dsimp only [dfaO, List.set_cons_zero, List.set_cons_succ, List.cons_append, List.nil_append]
  refine AK.storeBox 2 (us := [.int .i64 (minD d).L, .int .i64 (minD d).s, mF, mN]) (cs' := [.int .i64 (minD d).L, .int .i64 (minD d).s, mF, mN]) rfl sz32 rfl rfl rfl rfl oneP (leb rfl) rfl trivial ?_
  refine .as rfl (.nt hK9 (.ret ?_))
  refine AK.retG [.cell 6 32, .tmp 7] rfl (.cons (.cell ag32 rfl bsp rfl rfl) (.cons (.tmp rfl) (.nil))) (fun w hw => ⟨_, _, ?_, rfl, Ret.of (hw.pick [15, 16, 17] (by decide) rfl rfl)⟩)
  exact ⟨minD d, 0, mF, mN, mrs, lng_comb ha hb hL h2, hmrs, smF, smN, rfl, rfl⟩

set_option maxHeartbeats 2000000 in
theorem a_preimage (w : World) (v : Value) (d : Dfa) (h : RdD (fun _ => False) w v d) (vI : Value) (ws : List (List UInt8)) (hI : RdL (fun _ => False) sv w vI ws) (hv : VD d) (L0 : Int) (hws : WsOk L0 d.L ws) : CallS Tryz.prog 27 [v, vI] w (fun r o => ∃ (d9 : Dfa) (e : Int) (vF vN : Value) (rs : List Value), e = 0 ∧ LngOk L0 (fun u => langD d (hW ws u)) d9 e ∧ rs.length = d9.nx.length ∧ IsSl vF ∧ IsSl vN ∧ r = .tuple #[.agg #[.int .i64 d9.L, .int .i64 d9.s, vF, vN], .int .i64 e] ∧ o = dfaO 4 3 67 vF vN rs d9) := by
 have h0 := h
 obtain ⟨vF, vN, rfl, hF, hN⟩ := h
 have hF0 := hF
 have hN0 := hN
 obtain ⟨rs, hrl, hNr, hNi⟩ := hN
 have sF := hF.sl
 have sN := hNr.sl
 have hmf := hF.le
 have hmn := hNr.le
 unfold RdL at hF
 have hI0 := hI
 have smI := hI.sl
 have hmi := hI.le
 unfold RdL at hI
 have hwl := hws.len
 have hwL := hws.hL
 have hM := min_vd hv
 have hMn := hM.n
 have hMx := hM.nx
 refine spec_of Tryz.func27 rfl (leb rfl) ?_
 refine .sr fun _ hK1 => ?_
 refine AK.box_ (E := 32) (cs := [.int .i64 d.L, .int .i64 d.s, vF, vN]) rfl rfl rfl trivial rfl (fun bx2 => ?_)
 refine AK.alloc el32 rfl rfl trivial rfl (fun bx4 => ?_)
 refine .as rfl (.nt hK1 ?_)
 refine .sr fun _ hK2 => ?_
 refine .v (.loadBoxG ag32 rfl bsp rfl rfl) ?_
 refine AK.call co69 rfl (fun w hw => a_minimal w _ d (h0.at hw) hv) trivial rfl ?_
 rintro r o ⟨mF, mN, mrs, hmrs, smF, smN, rfl, rfl⟩
 refine .mv rfl (.v (.extract rfl rfl) (.v (.extract rfl rfl) ?_))
 refine AK.alloc el32 rfl rfl trivial rfl (fun bx6 => ?_)
 refine AK.storeBox 5 (us := [.int .i64 (minD d).L, .int .i64 (minD d).s, mF, mN]) (cs' := [.int .i64 (minD d).L, .int .i64 (minD d).s, mF, mN]) rfl sz32 rfl rfl rfl rfl oneP (leb rfl) rfl trivial ?_
 refine .as rfl (.nt hK2 ?_)
 refine .seq fun _ hK3 => ?_
 refine .sr fun _ hK4 => ?_
 refine .mv rfl (.v (.neq rfl rfl) (.nt hK4 ?_))
 refine AK.cond_f rfl (decide_eq_false (by omega)) ?_
 refine .skip ?_
 refine AK.then_ (hK3 _ ?_)
 refine .seq fun _ hK5 => ?_
 refine .sr fun _ hK6 => ?_
 refine .mv rfl ?_
 refine .v (.lenR sl56 rfl (by first | exact rdp | exact (.arg hI))) ?_
 refine .v (.lss rfl rfl) (.mv rfl ?_)
 refine AK.knownF (g := 27) rfl (decide_eq_false (by omega)) (fun hg_4_3 => ?_)
 refine AK.val _ (Yl.move rfl) ⟨_, rfl, gB hg_4_3⟩ rfl ?_
 refine AK.val _ (Yl.lenR sl56 rfl (by first | exact rdp | exact (.arg hI))) ⟨_, rfl, gB hg_4_3⟩ rfl ?_
 refine AK.val _ (Yl.gtr rfl rfl) ⟨_, rfl, gB hg_4_3⟩ rfl ?_
 refine .v (.pickF rfl (hg_4_3) rfl) (.nt hK6 ?_)
 refine AK.cond_f rfl (decide_eq_false (by omega)) ?_
 refine .skip ?_
 refine AK.then_ (hK5 _ ?_)
 refine .seq fun _ hK7 => ?_
 refine .sr fun _ hK8 => ?_
 refine .mv rfl ?_
 refine .v (.lenR sl56 rfl (by first | exact rdp | exact (.arg hI))) ?_
 refine .mv rfl (.nt hK8 (.block ?_))
 refine AK.loopK (X := Nat) [(1, _), (2, _), (4, _), (6, _), (33, _), (34, _)] (fun k => [(35, .int .i64 (k : Int))]) (fun k => [box bx2 32 4 [.int .i64 d.L, .int .i64 d.s, vF, vN], box bx4 32 4 [.int .i64 0, .int .i64 0, .slice none 0 0, .slice none 0 0], row mF 4 1 (minD d).fin.length ((minD d).fin.map Value.bool), row mN 67 1 (minD d).nx.length mrs, bigA (matG (Value.int .i64) 3 mrs (minD d).nx), box bx6 32 4 [.int .i64 (minD d).L, .int .i64 (minD d).s, mF, mN]]) (fun k => k ≤ ws.length) (fun k => ws.length - k) (0) slr ?_ ?_ ?_ ?_
 ·omega
 ·exact slr
 ·exact fun w hw => hw
 ·intro k hg0 _ hK9
  refine .sr fun _ hK10 => ?_
  refine .v (.lss rfl rfl) (.nt hK10 ?_)
  refine .seq fun _ hK11 => ?_
  refine AK.condD rfl (fun hc2 => ?_) (fun hc2 => ?_)
  ·refine .skip ?_
   refine AK.then_ (hK11 _ ?_)
   refine .seq fun _ hK12 => ?_
   refine .block ?_
   refine .sr fun _ hK13 => ?_
   first | refine .v (.iN sl56 rfl rfl (hr := (by first | exact rdp | exact (.arg hI)))) ?_ | refine .v (.iK sl56 rfl rfl (hr := (by first | exact rdp | exact (.arg hI)))) ?_
   refine .v (.loadS on9 rfl (by first | exact rdp | exact (.arg hI)) (by omega)) ?_
   refine .as rfl (.nt hK13 ?_)
   refine .sr fun _ hK14 => ?_
   refine .mv rfl (.v (.fieldAddr fd32_0 rfl) (.v (.loadBox on3 rfl bsp rfl) ?_))
   refine AK.call co38 rfl (fun w hw => s_wvalid w (ws.getD k []) d.L (by have := validW_iff.1 (hws.ok k (by omega)); omega)) trivial rfl ?_
   rintro r o ⟨rfl, rfl⟩
   refine .v (.not rfl) (.nt hK14 ?_)
   refine AK.cond_f rfl ((by rw [hws.ok k (by omega)]; rfl)) ?_
   refine .skip (.block_normal ?_)
   refine AK.then_ (hK12 _ ?_)
   refine AK.region ?_
   refine .v (.add rfl rfl (by omega)) ?_
   refine .mv rfl (.nil ?_)
   refine AK.then_ (hK9 _ _ (k + 1) (by omega) (by omega) (slr) (fun w hw => hw))
  ·refine .exit (.then_exit (.then_exit (.block_exit ?_)))
   refine AK.then_ (hK7 _ ?_)
   refine .sr fun _ hK15 => ?_
   refine .mv rfl ?_
   refine .v (.lenR sl56 rfl (by first | exact rdp | exact (.arg hI))) ?_
   refine .v (.fieldAddr fd32_1 rfl) (.v (.loadBox on3 rfl bsp rfl) (.v (.fieldAddr fd32_2 rfl) (.v (.loadBox on29 rfl bsp rfl) ?_)))
   refine .v (.build (parts := [(0, .tmp 47), (1, .tmp 49), (2, .tmp 51)]) (cs := #[.int .i64 (ws.length : Int), .int .i64 (minD d).s, mF, .slice none 0 0]) rfl (by obtain ⟨_, _, _, rfl⟩ := smF; kernel_rfl)) ?_
   refine AK.alloc el32 rfl rfl trivial rfl (fun bx10 => ?_)
   refine AK.storeBox 6 (us := [.int .i64 (ws.length : Int), .int .i64 (minD d).s, mF, .slice none 0 0]) (cs' := [.int .i64 (ws.length : Int), .int .i64 (minD d).s, mF, .slice none 0 0]) rfl sz32 rfl rfl rfl rfl oneP (leb rfl) rfl trivial ?_
   refine .nt hK15 ?_
   refine .seq fun _ hK16 => ?_
   refine .sr fun _ hK17 => ?_
   refine .v (.fieldAddr fd32_2 rfl) (.v (.loadBox on29 rfl bsp rfl) ?_)
   refine .v (.lenR sl29 rfl (by first | exact rdp | exact (.arg hI))) ?_
   refine .mv rfl (.nt hK17 (.block ?_))
   refine AK.loopK (X := Nat × Value × List Value) [(1, _), (4, _), (6, _), (10, _), (55, _)] (fun x => [(56, .int .i64 (x.1 : Int))]) (fun x => [box bx6 32 4 [.int .i64 (minD d).L, .int .i64 (minD d).s, mF, mN], row mF 4 1 (minD d).fin.length ((minD d).fin.map Value.bool), row mN 67 1 (minD d).nx.length mrs, bigA (matG (Value.int .i64) 3 mrs (minD d).nx), box bx10 32 4 [.int .i64 (ws.length : Int), .int .i64 (minD d).s, mF, x.2.1], row x.2.1 67 1 x.1 x.2.2, bigA (matG (Value.int .i64) 3 x.2.2 ((List.range x.1).map fun (q : Nat) => ws.map fun l => runI (minD d) (q : Int) l)), box bx4 32 4 [.int .i64 0, .int .i64 0, .slice none 0 0, .slice none 0 0]]) (fun x => x.1 ≤ (minD d).fin.length ∧ IsSl x.2.1 ∧ x.2.2.length = x.1) (fun x => (minD d).fin.length - x.1) ((0, .slice none 0 0, [])) slr ?_ ?_ ?_ ?_
   ·exact ⟨Nat.zero_le _, nilSl, rfl⟩
   ·exact slr
   ·exact fun w hw => by have h1 := ((hw.pick [5, 2, 3, 4, 6, 1] (by decide) rfl rfl).ghost 67 1).ghostG (f := Value.int .i64) 3; exact h1.pick [0, 1, 2, 3, 4, 6, 7, 5] (by decide) rfl rfl
   ·intro x hg1 _ hK18
    refine .sr fun _ hK19 => ?_
    refine .v (.lss rfl rfl) (.nt hK19 ?_)
    refine .seq fun _ hK20 => ?_
    refine AK.condD rfl (fun hc4 => ?_) (fun hc4 => ?_)
    ·refine .skip ?_
     refine AK.then_ (hK20 _ ?_)
     refine .seq fun _ hK21 => ?_
     refine .block ?_
     refine .sr fun _ hK22 => ?_
     refine .mv rfl (.as rfl (.nt hK22 ?_))
     refine .sr fun _ hK23 => ?_
     refine .mv rfl ?_
     refine .v (.lenR sl56 rfl (by first | exact rdp | exact (.arg hI))) ?_
     refine AK.make1 (n := ws.length) sl67 el3 rfl rfl rfl (by omega) (by omega) trivial rfl (fun mv => ?_)
     refine .as rfl (.nt hK23 ?_)
     refine .seq fun _ hK24 => ?_
     refine .sr fun _ hK25 => ?_
     refine .mv rfl ?_
     refine .v (.lenR sl56 rfl (by first | exact rdp | exact (.arg hI))) ?_
     refine .mv rfl (.nt hK25 (.block ?_))
     refine AK.loopK (X := Nat) [(1, _), (4, _), (6, _), (10, _), (11, _), (12, _), (55, _), (56, _), (62, _), (63, _)] (fun y => [(64, .int .i64 (y : Int))]) (fun y => [box bx6 32 4 [.int .i64 (minD d).L, .int .i64 (minD d).s, mF, mN], row mF 4 1 (minD d).fin.length ((minD d).fin.map Value.bool), row mN 67 1 (minD d).nx.length mrs, bigA (matG (Value.int .i64) 3 mrs (minD d).nx), box bx10 32 4 [.int .i64 (ws.length : Int), .int .i64 (minD d).s, mF, x.2.1], row x.2.1 67 1 x.1 x.2.2, bigA (matG (Value.int .i64) 3 x.2.2 ((List.range x.1).map fun (q : Nat) => ws.map fun l => runI (minD d) (q : Int) l)), box bx4 32 4 [.int .i64 0, .int .i64 0, .slice none 0 0, .slice none 0 0], row mv 3 1 ws.length ((((ws.take y).map fun l => runI (minD d) (x.1 : Int) l) ++ List.replicate (ws.length - y) 0).map (Value.int .i64))]) (fun y => y ≤ ws.length) (fun y => ws.length - y) (0) slr ?_ ?_ ?_ ?_
     ·omega
     ·exact slr
     ·exact fun w hw => by have e : (((ws.take 0).map (fun l => runI (minD d) (x.1 : Int) l) ++ List.replicate (ws.length - 0) 0).map (Value.int .i64)) = List.replicate ws.length (Value.int .i64 0) := (by simp); rw [e]; exact hw
     ·intro y hg2 _ hK26
      refine .sr fun _ hK27 => ?_
      refine .v (.lss rfl rfl) (.nt hK27 ?_)
      refine .seq fun _ hK28 => ?_
      refine AK.condD rfl (fun hc5 => ?_) (fun hc5 => ?_)
      ·refine .skip ?_
       refine AK.then_ (hK28 _ ?_)
       refine .seq fun _ hK29 => ?_
       refine .block ?_
       refine .sr fun _ hK30 => ?_
       refine .mv rfl ?_
       first | refine .v (.iN sl56 rfl rfl (hr := (by first | exact rdp | exact (.arg hI)))) ?_ | refine .v (.iK sl56 rfl rfl (hr := (by first | exact rdp | exact (.arg hI)))) ?_
       refine .v (.loadS on9 rfl (by first | exact rdp | exact (.arg hI)) (by omega)) ?_
       refine .as rfl (.as rfl (.nt hK30 ?_))
       refine AK.region ?_
       refine .mv rfl (.mv rfl (.v (.loadBoxG ag32 rfl bsp rfl rfl) (.mv rfl (.mv rfl ?_))))
       refine AK.call co50 rfl (fun w hw => s_run w _ (minD d) (RdD.own 1 hw hmrs rfl rfl rfl) (x.1 : Int) (ws.getD y []) (by have := validW_iff.1 (hws.ok y (by omega)); omega)) trivial rfl ?_
       rintro r o ⟨rfl, rfl⟩
       have hrv : RunV (minD d) (x.1 : Int) (ws.getD y []) = runI (minD d) (x.1 : Int) (ws.getD y []) := if_pos ⟨(errV_iff _).2 hM, by omega, hws.ok y (by omega)⟩
       rw [hrv]
       first | refine .v (.iN sl67 rfl rfl (hr := (by first | exact rdp | exact (.arg hI)))) ?_ | refine .v (.iK sl67 rfl rfl (hr := (by first | exact rdp | exact (.arg hI)))) ?_
       refine AK.store1e 8 rfl sz3 rfl rfl rfl rfl (by omega) (cs' := ((((ws.take (y + 1)).map fun l => runI (minD d) (x.1 : Int) l) ++ List.replicate (ws.length - (y + 1)) 0).map (Value.int .i64))) (by have e : (ws.take (y + 1)).map (fun l => runI (minD d) (x.1 : Int) l) = (ws.take y).map (fun l => runI (minD d) (x.1 : Int) l) ++ [runI (minD d) (x.1 : Int) (ws.getD y [])] := (by rw [take_snocD [] ws y (by omega), List.map_append]; rfl); rw [e]; exact fill_set (Value.int .i64) ((ws.take y).map fun l => runI (minD d) (x.1 : Int) l) 0 _ ws.length y (by simp; omega) (by omega)) trivial ?_
       refine .nil (.block_normal ?_)
       refine AK.then_ (hK29 _ ?_)
       refine AK.region ?_
       refine .v (.add rfl rfl (by omega)) ?_
       refine .mv rfl (.nil ?_)
       refine AK.then_ (hK26 _ _ (y + 1) (by omega) (by omega) (slr) (fun w hw => hw))
      ·refine AK.shape 8 rfl (fun hsr => ?_)
       have hyL : y = ws.length := by omega
       refine .exit (.then_exit (.then_exit (.block_exit ?_)))
       refine AK.then_ (hK24 _ ?_)
       refine AK.region ?_
       refine .v (.fieldAddr fd32_3 rfl) (.v (.loadBox on30 rfl bsp rfl) (.mv rfl ?_))
       refine AK.append1 5 rfl sl30 el67 rfl (by decide) rfl (by intro k hk; cases hk; rfl) (by rw [hsr.cells]; rfl) (by rw [hsr.cells]; exact one'_cons hsr.one one'_nil) (by omega) (by omega) (by decide) rfl rfl (fun va _ ha => ?_)
       refine .v (.fieldAddr fd32_3 rfl) ?_
       refine AK.storeBox 4 (us := [va]) (cs' := [.int .i64 (ws.length : Int), .int .i64 (minD d).s, mF, va]) rfl sz30 rfl rfl (by rw [IsSl.cells (by assumption)]) rfl oneP (leb rfl) rfl trivial ?_
       refine .nil (.block_normal ?_)
       refine AK.then_ (hK21 _ ?_)
       refine AK.region ?_
       refine .v (.add rfl rfl (by omega)) ?_
       refine .mv rfl (.nil ?_)
       refine AK.then_ (hK18 _ _ ((x.1 + 1, va, x.2.2 ++ [mv])) ⟨by dsimp only; omega, ha, by simp [hg1.2.2]⟩ (by dsimp only; omega) (slr) (fun w hw => by
         dsimp only
         have e1 : ((List.range (x.1 + 1)).map fun (q : Nat) => ws.map fun l => runI (minD d) (q : Int) l) = ((List.range x.1).map fun (q : Nat) => ws.map fun l => runI (minD d) (q : Int) l) ++ [(ws.map fun l => runI (minD d) (x.1 : Int) l)] := by rw [List.range_succ, List.map_append]; rfl
         have e2 : matG (Value.int .i64) 3 (x.2.2 ++ [mv]) (((List.range x.1).map fun (q : Nat) => ws.map fun l => runI (minD d) (q : Int) l) ++ [(ws.map fun l => runI (minD d) (x.1 : Int) l)]) = matG (Value.int .i64) 3 x.2.2 ((List.range x.1).map fun (q : Nat) => ws.map fun l => runI (minD d) (q : Int) l) ++ [row mv 3 1 ws.length ((ws.map fun l => runI (minD d) (x.1 : Int) l).map (Value.int .i64))] := by
          have := matG_snoc (f := Value.int .i64) (E := 3) (rs := x.2.2) (xss := ((List.range x.1).map fun (q : Nat) => ws.map fun l => runI (minD d) (q : Int) l)) (by simp [hg1.2.2]) mv (ws.map fun l => runI (minD d) (x.1 : Int) l)
          rw [List.length_map] at this; exact this
         have e3 : mv.cells.toList = [mv] := (by rw [hsr.cells])
         have e4 : ((((ws.take y).map fun l => runI (minD d) (x.1 : Int) l) ++ List.replicate (ws.length - y) 0).map (Value.int .i64)) = (ws.map fun l => runI (minD d) (x.1 : Int) l).map (Value.int .i64) := by rw [hyL]; simp
         rw [e3, e4] at hw
         rw [e1, e2]
         exact HW.absorb (own := [_, _, _, _, _, _, _, _]) 6 rfl hw))
    ·refine .exit (.then_exit (.then_exit (.block_exit ?_)))
     refine AK.then_ (hK16 _ ?_)
     refine .sr fun _ hK31 => ?_
     refine .v (.loadBoxG ag32 rfl bsp rfl rfl) ?_
     refine AK.call co15 rfl (fun w hw => s_min w _ (preD (minD d) ws) (RdD.mk (d := preD (minD d) ws) (RdL.own 1 hw rfl) (RdLL.own 5 6 hw (by rw [hg1.2.2]; simp [preD]; omega) (by have e : x.1 = (minD d).fin.length := (by omega); show _ = some (row x.2.1 67 1 ((List.range (minD d).fin.length).map _).length x.2.2); rw [List.length_map, List.length_range, ← e]; rfl) (by have e : x.1 = (minD d).fin.length := (by omega); show _ = some (bigA (matG _ 3 x.2.2 ((List.range (minD d).fin.length).map _))); rw [← e]; rfl)))) trivial rfl ?_
     rintro r o ⟨pF, pN, prs, rfl, hprs, spF, spN, rfl⟩
     refine AK.storeBox 7 (us := [.int .i64 (MinV (preD (minD d) ws)).L, .int .i64 (MinV (preD (minD d) ws)).s, pF, pN]) (cs' := [.int .i64 (MinV (preD (minD d) ws)).L, .int .i64 (MinV (preD (minD d) ws)).s, pF, pN]) rfl sz32 rfl rfl rfl rfl oneP (leb rfl) rfl trivial ?_
     refine .as rfl (.nt hK31 (.ret ?_))
     refine AK.retG [.cell 4 32, .tmp 5] rfl (.cons (.cell ag32 rfl bsp rfl rfl) (.cons (.tmp rfl) (.nil))) (fun w hw => ⟨_, _, ?_, rfl, Ret.of (hw.pick [8, 9, 10] (by decide) rfl rfl)⟩)
     have hp := pre_vd hM (L := L0) (ws := ws) hws
     have hMV : MinV (preD (minD d) ws) = minD (preD (minD d) ws) := if_pos hp
     rw [hMV] at hprs ⊢
     exact ⟨_, 0, pF, pN, prs, rfl, lng_pre hv hws, hprs, spF, spN, rfl, rfl⟩

end Go.Proofs.YtbibnpdnmmgacaaGreatDoor

namespace Go.Proofs.YtbibnpdnmmgacaaGreatDoor
open Go.Sx Go.RowKit
set_option maxHeartbeats 4000000 in
theorem a_image (w : World) (v : Value) (d : Dfa) (h : RdD (fun _ => False) w v d) (M : Int) (vI : Value) (ws : List (List UInt8)) (hI : RdL (fun _ => False) sv w vI ws) (hv : VD d) (hws : WsOk d.L M ws) (hne : ∀ i, i < ws.length → 0 < (ws.getD i []).length) (hS : (minD d).fin.length * (1 + inr ws ws.length) ≤ 64) (hT : TbA w) : CallS Tryz.prog 26 [v, .int .i64 M, vI] w (fun r o => ∃ (d9 : Dfa) (e : Int) (vF vN : Value) (rs : List Value), LngOk M (fun v => ∃ u : List UInt8, u.all (okB d.L) = true ∧ v = hW ws u ∧ langD d u) d9 e ∧ rs.length = d9.nx.length ∧ IsSl vF ∧ IsSl vN ∧ r = .tuple #[.agg #[.int .i64 d9.L, .int .i64 d9.s, vF, vN], .int .i64 e] ∧ o = dfaO 4 3 67 vF vN rs d9) := by
 have h0 := h
 obtain ⟨vF, vN, rfl, hF, hN⟩ := h
 have hF0 := hF
 have hN0 := hN
 obtain ⟨rs, hrl, hNr, hNi⟩ := hN
 have sF := hF.sl
 have sN := hNr.sl
 have hmf := hF.le
 have hmn := hNr.le
 unfold RdL at hF
 have hI0 := hI
 have smI := hI.sl
 have hmi := hI.le
 unfold RdL at hI
 have hwl := hws.len
 have hwL := hws.hL
 have hwM := hws.hM
 have hM := min_vd hv
 have hMn := hM.n
 have hMx := hM.nx
 have hMs := hM.s
 have hMl : (minD d).L = d.L := rfl
 have hn1 : (minD d).fin.length ≤ (minD d).fin.length * (1 + inr ws ws.length) := Nat.le_mul_of_pos_right _ (by omega)
 have hi1 : 1 + inr ws ws.length ≤ (minD d).fin.length * (1 + inr ws ws.length) := Nat.le_mul_of_pos_left _ (by omega)
 refine spec_of Tryz.func26 rfl (leb rfl) ?_
 refine .sr fun _ hK1 => ?_
 refine AK.box_ (E := 32) (cs := [.int .i64 d.L, .int .i64 d.s, vF, vN]) rfl rfl rfl trivial rfl (fun bx3 => ?_)
 refine AK.alloc el32 rfl rfl trivial rfl (fun bx6 => ?_)
 refine .as rfl (.nt hK1 ?_)
 refine .sr fun _ hK2 => ?_
 refine .v (.loadBoxG ag32 rfl bsp rfl rfl) ?_
 refine AK.call co69 rfl (fun w hw => a_minimal w _ d (h0.at hw) hv) trivial rfl ?_
 rintro r o ⟨mF, mN, mrs, hmrs, smF, smN, rfl, rfl⟩
 refine .mv rfl (.v (.extract rfl rfl) (.v (.extract rfl rfl) ?_))
 refine AK.alloc el32 rfl rfl trivial rfl (fun bx8 => ?_)
 refine AK.storeBox 5 (us := [.int .i64 (minD d).L, .int .i64 (minD d).s, mF, mN]) (cs' := [.int .i64 (minD d).L, .int .i64 (minD d).s, mF, mN]) rfl sz32 rfl rfl rfl rfl oneP (leb rfl) rfl trivial ?_
 refine .as rfl (.nt hK2 ?_)
 refine .seq fun _ hK3 => ?_
 refine .sr fun _ hK4 => ?_
 refine .mv rfl (.v (.neq rfl rfl) (.nt hK4 ?_))
 refine AK.cond_f rfl (decide_eq_false (by omega)) ?_
 refine .skip ?_
 refine AK.then_ (hK3 _ ?_)
 refine .seq fun _ hK5 => ?_
 refine .sr fun _ hK6 => ?_
 refine .mv rfl (.v (.lss rfl rfl) (.mv rfl ?_))
 refine AK.knownF (g := 34) rfl (decide_eq_false (by omega)) (fun hg_4_2 => ?_)
 refine AK.val _ (Yl.move rfl) ⟨_, rfl, gB hg_4_2⟩ rfl ?_
 refine AK.val _ (Yl.gtr rfl rfl) ⟨_, rfl, gB hg_4_2⟩ rfl ?_
 refine .v (.pickF rfl (hg_4_2) rfl) (.mv rfl ?_)
 refine AK.knownF (g := 38) rfl (decide_eq_false (by omega)) (fun hg_4_6 => ?_)
 refine AK.val _ (Yl.move rfl) ⟨_, rfl, gB hg_4_6⟩ rfl ?_
 refine AK.val _ (Yl.lenR sl56 rfl (by first | exact rdp | exact (.arg hI) | exact (RdS.big 4 p rfl (matG_get hmrs (by omega))))) ⟨_, rfl, gB hg_4_6⟩ rfl ?_
 refine AK.val _ (Yl.fieldAddr fd32_0 rfl) ⟨_, rfl, gB hg_4_6⟩ rfl ?_
 refine AK.val _ (Yl.loadBox on3 rfl bsp rfl) ⟨_, rfl, gB hg_4_6⟩ rfl ?_
 refine AK.val _ (Yl.neq rfl rfl) ⟨_, rfl, gB hg_4_6⟩ rfl ?_
 refine .v (.pickF rfl (hg_4_6) rfl) (.nt hK6 ?_)
 refine AK.cond_f rfl (decide_eq_false (by omega)) ?_
 refine .skip ?_
 refine AK.then_ (hK5 _ ?_)
 refine .sr fun _ hK7 => ?_
 refine .as rfl (.nt hK7 ?_)
 refine .seq fun _ hK8 => ?_
 refine .sr fun _ hK9 => ?_
 refine .mv rfl ?_
 refine .v (.lenR sl56 rfl (by first | exact rdp | exact (.arg hI) | exact (RdS.big 4 p rfl (matG_get hmrs (by omega))))) ?_
 refine .mv rfl (.nt hK9 (.block ?_))
 refine AK.loopK (X := Nat) [(1, _), (2, _), (6, _), (8, _), (46, _), (47, _)] (fun k => [(10, .int .i64 ((inr ws k : Nat) : Int)), (48, .int .i64 (k : Int))]) (fun k => [box bx3 32 4 [.int .i64 d.L, .int .i64 d.s, vF, vN], box bx6 32 4 [.int .i64 0, .int .i64 0, .slice none 0 0, .slice none 0 0], row mF 4 1 (minD d).fin.length ((minD d).fin.map Value.bool), row mN 67 1 (minD d).nx.length mrs, bigA (matG (Value.int .i64) 3 mrs (minD d).nx), box bx8 32 4 [.int .i64 (minD d).L, .int .i64 (minD d).s, mF, mN]]) (fun k => k ≤ ws.length) (fun k => ws.length - k) (0) slr ?_ ?_ ?_ ?_
 ·omega
 ·exact slr
 ·exact fun w hw => hw
 ·intro k hg0 _ hK10
  refine .sr fun _ hK11 => ?_
  refine .v (.lss rfl rfl) (.nt hK11 ?_)
  refine .seq fun _ hK12 => ?_
  refine AK.condD rfl (fun hc2 => ?_) (fun hc2 => ?_)
  ·have hlk := validW_iff.1 (hws.ok k (by omega))
   have hik := inr_mono ws (show k + 1 ≤ ws.length by omega)
   have hik2 := hik
   simp only [inr] at hik
   refine .skip ?_
   refine AK.then_ (hK12 _ ?_)
   refine .seq fun _ hK13 => ?_
   refine .block ?_
   refine .sr fun _ hK14 => ?_
   first | refine .v (.iN sl56 rfl rfl (hr := (by first | exact rdp | exact (.arg hI) | exact (RdS.big 4 p rfl (matG_get hmrs (by omega)))))) ?_ | refine .v (.iK sl56 rfl rfl (hr := (by first | exact rdp | exact (.arg hI) | exact (RdS.big 4 p rfl (matG_get hmrs (by omega)))))) ?_
   refine .v (.loadS on9 rfl (by first | exact rdp | exact (.arg hI) | exact (RdS.big 4 p rfl (matG_get hmrs (by omega)))) (by omega)) ?_
   refine .as rfl (.nt hK14 ?_)
   refine .seq fun _ hK15 => ?_
   refine .sr fun _ hK16 => ?_
   refine .mv rfl (.v (.eqlS un9 rfl rfl) (.mv rfl ?_))
   refine AK.knownF (g := 54) rfl (decide_eq_false (fun h => by have h2 := hne k (by omega); rw [h] at h2; simp at h2)) (fun hg_10_2 => ?_)
   refine AK.val _ (Yl.move rfl) ⟨_, rfl, gB hg_10_2⟩ rfl ?_
   refine AK.val _ (Yl.move rfl) ⟨_, rfl, gB hg_10_2⟩ rfl ?_
   refine AK.call co38 rfl (fun w hw => s_wvalid w (ws.getD k []) M (by have := validW_iff.1 (hws.ok k (by omega)); omega)) ⟨_, rfl, gB hg_10_2⟩ rfl ?_
   rintro r o ⟨rfl, rfl⟩
   refine AK.val _ (Yl.not rfl) ⟨_, rfl, gB hg_10_2⟩ rfl ?_
   refine .v (.pickF rfl (hg_10_2) rfl) (.nt hK16 ?_)
   refine AK.cond_f rfl ((by rw [hws.ok k (by omega)]; rfl)) ?_
   refine .skip ?_
   refine AK.then_ (hK15 _ ?_)
   refine AK.region ?_
   refine .mv rfl (.mv rfl (.v (.lenS un9 rfl) ?_))
   refine .v (.subE ((((ws.getD k []).length - 1 : Nat) : Int)) rfl rfl (by have := hne k (by omega); omega) (by omega)) ?_
   refine .v (.addE (((inr ws (k + 1) : Nat) : Int)) rfl rfl (by simp only [inr]; omega) (by omega)) ?_
   refine .as rfl (.nil (.block_normal ?_))
   refine AK.then_ (hK13 _ ?_)
   refine AK.region ?_
   refine .v (.add rfl rfl (by omega)) ?_
   refine .mv rfl (.nil ?_)
   refine AK.then_ (hK10 _ _ (k + 1) (by omega) (by omega) (slr) (fun w hw => hw))
  ·have hik3 := inr_mono ws (show k ≤ ws.length by omega)
   refine .exit (.then_exit (.then_exit (.block_exit ?_)))
   refine AK.then_ (hK8 _ ?_)
   refine .sr fun _ hK17 => ?_
   refine .v (.fieldAddr fd32_2 rfl) (.v (.loadBox on29 rfl bsp rfl) ?_)
   refine .v (.lenR sl29 rfl (by first | exact rdp | exact (.arg hI) | exact (RdS.big 4 p rfl (matG_get hmrs (by omega))))) ?_
   refine .as rfl (.nt hK17 ?_)
   refine .sr fun _ hK18 => ?_
   refine .mv rfl (.mv rfl (.mv rfl ?_))
   refine .v (.add rfl rfl (by omega)) ?_
   refine .v (.mulE ((((minD d).fin.length * (1 + inr ws ws.length) : Nat) : Int)) rfl rfl (by have e : k = ws.length := (by omega); rw [e, Int.natCast_mul, Int.natCast_add]; rfl) (by omega)) ?_
   refine AK.call co63 rfl (fun w hw => a_begin w M (((minD d).fin.length * (1 + inr ws ws.length) : Nat) : Int) (by omega)) trivial rfl ?_
   rintro r o ⟨nb, rfl, rfl⟩
   refine .mv rfl (.v (.extract rfl rfl) (.v (.extract rfl rfl) (.as rfl (.as rfl (.nt hK18 ?_)))))
   refine .seq fun _ hK19 => ?_
   refine .sr fun _ hK20 => ?_
   refine .mv rfl (.v (.neq rfl rfl) (.nt hK20 ?_))
   refine AK.cond_f rfl (decide_eq_false (by omega)) ?_
   refine .skip ?_
   refine AK.then_ (hK19 _ ?_)
   refine .sr fun _ hK21 => ?_
   refine .mv rfl (.as rfl (.nt hK21 ?_))
   refine .seq fun _ hK22 => ?_
   refine .sr fun _ hK23 => ?_
   refine .v (.fieldAddr fd32_3 rfl) (.v (.loadBox on30 rfl bsp rfl) ?_)
   refine .v (.lenR sl30 rfl (by first | exact rdp | exact (.arg hI) | exact (RdS.big 4 p rfl (matG_get hmrs (by omega))))) ?_
   refine .mv rfl (.nt hK23 (.block ?_))
   refine AK.loopK (X := Nat) [(2, _), (6, _), (8, _), (14, _), (85, _), (86, _)] (fun p => [(15, .int .i64 ((nxI (minD d).fin.length ws p 0 : Nat) : Int)), (87, .int .i64 (p : Int))]) (fun p => [autX 158 98 nb (addEs ⟨M, (((minD d).fin.length * (1 + inr ws ws.length) : Nat) : Int), 0, 0, []⟩ (imI (minD d) ws p)), box bx8 32 4 [.int .i64 (minD d).L, .int .i64 (minD d).s, mF, mN], row mF 4 1 (minD d).fin.length ((minD d).fin.map Value.bool), row mN 67 1 (minD d).nx.length mrs, bigA (matG (Value.int .i64) 3 mrs (minD d).nx), box bx6 32 4 [.int .i64 0, .int .i64 0, .slice none 0 0, .slice none 0 0]]) (fun p => p ≤ (minD d).fin.length) (fun p => (minD d).fin.length - p) (0) slr ?_ ?_ ?_ ?_
   ·omega
   ·exact .cons (slI rfl (by simp [nxI, inr])) (slr)
   ·exact fun w hw => hw.pick [6, 5, 2, 3, 4, 1] (by decide) rfl rfl
   ·intro p hg1 _ hK24
    refine .sr fun _ hK25 => ?_
    refine .v (.lss rfl rfl) (.nt hK25 ?_)
    refine .seq fun _ hK26 => ?_
    refine AK.condD rfl (fun hc5 => ?_) (fun hc5 => ?_)
    ·have hrw := hM.row p (by omega)
     refine .skip ?_
     refine AK.then_ (hK26 _ ?_)
     refine .seq fun _ hK27 => ?_
     refine .block ?_
     refine .sr fun _ hK28 => ?_
     refine .mv rfl ?_
     first | refine .v (.iN sl30 rfl rfl (hr := (by first | exact rdp | exact (.arg hI) | exact (RdS.big 4 p rfl (matG_get hmrs (by omega)))))) ?_ | refine .v (.iK sl30 rfl rfl (hr := (by first | exact rdp | exact (.arg hI) | exact (RdS.big 4 p rfl (matG_get hmrs (by omega)))))) ?_
     refine .v (.loadV on67 rfl (by first | exact rdp | exact (.arg hI) | exact (RdS.big 4 p rfl (matG_get hmrs (by omega)))) (by omega)) ?_
     refine .as rfl (.as rfl (.nt hK28 ?_))
     refine .sr fun _ hK29 => ?_
     refine .mv rfl ?_
     refine .v (.lenR sl67 rfl (by first | exact rdp | exact (.arg hI) | exact (RdS.big 4 p rfl (matG_get hmrs (by omega))))) ?_
     refine .mv rfl (.nt hK29 (.block ?_))
     refine AK.loopK (X := Nat) [(2, _), (6, _), (8, _), (14, _), (16, _), (85, _), (86, _), (87, _), (92, _), (93, _)] (fun y => [(15, .int .i64 ((nxI (minD d).fin.length ws p y : Nat) : Int)), (94, .int .i64 (y : Int))]) (fun y => [autX 158 98 nb (addEs ⟨M, (((minD d).fin.length * (1 + inr ws ws.length) : Nat) : Int), 0, 0, []⟩ (imI (minD d) ws p ++ roI (minD d) ws p y)), box bx8 32 4 [.int .i64 (minD d).L, .int .i64 (minD d).s, mF, mN], row mF 4 1 (minD d).fin.length ((minD d).fin.map Value.bool), row mN 67 1 (minD d).nx.length mrs, bigA (matG (Value.int .i64) 3 mrs (minD d).nx), box bx6 32 4 [.int .i64 0, .int .i64 0, .slice none 0 0, .slice none 0 0]]) (fun y => y ≤ ws.length) (fun y => ws.length - y) (0) slr ?_ ?_ ?_ ?_
     ·omega
     ·exact slr
     ·exact fun w hw => by rw [show roI (minD d) ws p 0 = [] from rfl, List.append_nil]; exact hw
     ·intro y hg2 _ hK30
      refine .sr fun _ hK31 => ?_
      refine .v (.lss rfl rfl) (.nt hK31 ?_)
      refine .seq fun _ hK32 => ?_
      refine AK.condD rfl (fun hc6 => ?_) (fun hc6 => ?_)
      ·have hly := validW_iff.1 (hws.ok y (by omega))
       have h0y := hne y (by omega)
       have hto := hM.to p y (by omega) (by omega)
       have hml := inr_mono ws (show y + 1 ≤ ws.length by omega)
       simp only [inr] at hml
       have hpl : p * inr ws ws.length ≤ 64 * 64 := Nat.mul_le_mul (by omega) (by omega)
       have hpe : p * (inr ws ws.length + ws.length) ≤ 64 * 70 := Nat.mul_le_mul (by omega) (by omega)
       have hnx : nxI (minD d).fin.length ws p y ≤ 100000 := (by unfold nxI; omega)
       have hilen := imI_len (d := (minD d)) hne p
       have hrlen := roI_len (d := (minD d)) (p := p) hne y (by omega)
       refine .skip ?_
       refine AK.then_ (hK32 _ ?_)
       refine .seq fun _ hK33 => ?_
       refine .block ?_
       refine .sr fun _ hK34 => ?_
       refine .mv rfl ?_
       first | refine .v (.iN sl67 rfl rfl (hr := (by first | exact rdp | exact (.arg hI) | exact (RdS.big 4 p rfl (matG_get hmrs (by omega)))))) ?_ | refine .v (.iK sl67 rfl rfl (hr := (by first | exact rdp | exact (.arg hI) | exact (RdS.big 4 p rfl (matG_get hmrs (by omega)))))) ?_
       refine .v (.loadI on3 rfl (by first | exact rdp | exact (.arg hI) | exact (RdS.big 4 p rfl (matG_get hmrs (by omega)))) (by omega)) ?_
       refine .as rfl (.as rfl (.nt hK34 ?_))
       refine .sr fun _ hK35 => ?_
       refine .mv rfl (.mv rfl ?_)
       first | refine .v (.iN sl56 rfl rfl (hr := (by first | exact rdp | exact (.arg hI) | exact (RdS.big 4 p rfl (matG_get hmrs (by omega)))))) ?_ | refine .v (.iK sl56 rfl rfl (hr := (by first | exact rdp | exact (.arg hI) | exact (RdS.big 4 p rfl (matG_get hmrs (by omega)))))) ?_
       refine .v (.loadS on9 rfl (by first | exact rdp | exact (.arg hI) | exact (RdS.big 4 p rfl (matG_get hmrs (by omega)))) (by omega)) ?_
       refine .mv rfl (.as rfl (.as rfl (.nt hK35 ?_)))
       refine .seq fun _ hK36 => ?_
       refine .sr fun _ hK37 => ?_
       refine .mv rfl (.v (.lenS un9 rfl) ?_)
       refine .v (.subE ((((ws.getD y []).length - 1 : Nat) : Int)) rfl rfl (by have := hne y (by omega); omega) (by omega)) ?_
       refine .mv rfl (.nt hK37 (.block ?_))
       refine AK.loopK (X := Nat) [(2, _), (6, _), (8, _), (14, _), (16, _), (19, _), (20, _), (85, _), (86, _), (87, _), (92, _), (93, _), (94, _), (106, _)] (fun i => [(15, .int .i64 ((nxI (minD d).fin.length ws p y + i : Nat) : Int)), (21, .int .i64 ((stI (minD d).fin.length ws p y i : Nat) : Int)), (107, .int .i64 (i : Int))]) (fun i => [autX 158 98 nb (addEs ⟨M, (((minD d).fin.length * (1 + inr ws ws.length) : Nat) : Int), 0, 0, []⟩ (imI (minD d) ws p ++ roI (minD d) ws p y ++ chI (minD d).fin.length ws p y i)), box bx8 32 4 [.int .i64 (minD d).L, .int .i64 (minD d).s, mF, mN], row mF 4 1 (minD d).fin.length ((minD d).fin.map Value.bool), row mN 67 1 (minD d).nx.length mrs, bigA (matG (Value.int .i64) 3 mrs (minD d).nx), box bx6 32 4 [.int .i64 0, .int .i64 0, .slice none 0 0, .slice none 0 0]]) (fun i => i ≤ (ws.getD y []).length - 1) (fun i => (ws.getD y []).length - 1 - i) (0) slr ?_ ?_ ?_ ?_
       ·omega
       ·exact slr
       ·exact fun w hw => by rw [show chI (minD d).fin.length ws p y 0 = [] from rfl, List.append_nil]; exact hw
       ·intro i hg3 _ hK38
        refine .sr fun _ hK39 => ?_
        refine .v (.lss rfl rfl) (.nt hK39 ?_)
        refine .seq fun _ hK40 => ?_
        refine AK.condD rfl (fun hc7 => ?_) (fun hc7 => ?_)
        ·have hcc := hly.2 i (by omega)
         have hel : (addEs ⟨M, (((minD d).fin.length * (1 + inr ws ws.length) : Nat) : Int), 0, 0, []⟩ (imI (minD d) ws p ++ roI (minD d) ws p y ++ chI (minD d).fin.length ws p y i)).es.length ≤ 1000000000 := (by show ([] ++ (imI (minD d) ws p ++ roI (minD d) ws p y ++ chI (minD d).fin.length ws p y i)).length ≤ _; simp only [List.length_append, List.length_nil, chI_len, hilen, hrlen]; omega)
         refine .skip ?_
         refine AK.then_ (hK40 _ ?_)
         refine .seq fun _ hK41 => ?_
         refine .block ?_
         refine .sr fun _ hK42 => ?_
         refine .mv rfl (.as rfl (.nt hK42 ?_))
         refine .sr fun _ hK43 => ?_
         refine .mv rfl (.mv rfl (.mv rfl (.mv rfl ?_)))
         first | refine .v (.idxSN un9 rfl rfl (by omega)) ?_ | refine .v (.idxS un9 rfl rfl (by omega)) ?_
         refine .v (.subU8 rfl rfl (by omega)) ?_
         refine .v (.convI (by kernel_rfl) un3 rfl (wrap_i64 (by omega))) ?_
         refine .mv rfl ?_
         refine AK.callM 0 rfl co70 rfl (fun w F hw hA => a_edge w F nb _ _ _ _ hel hA) trivial rfl ?_
         rintro r A o ⟨rfl, rfl⟩
         refine .nt hK43 ?_
         refine .sr fun _ hK44 => ?_
         refine .mv rfl (.as rfl (.nt hK44 ?_))
         refine AK.region ?_
         refine .mv rfl ?_
         refine .v (.addE (((nxI (minD d).fin.length ws p y + (i + 1) : Nat) : Int)) rfl rfl (by omega) (by omega)) ?_
         refine .as rfl (.nil (.block_normal ?_))
         refine AK.then_ (hK41 _ ?_)
         refine AK.region ?_
         refine .v (.add rfl rfl (by omega)) ?_
         refine .mv rfl (.nil ?_)
         refine AK.then_ (hK38 _ _ (i + 1) (by omega) (by omega) (.cons (rfl) (.cons (slI rfl (by rw [stI_next])) (slr))) (fun w hw => by rw [chI_next, stI_next, ← List.append_assoc, ← addE_addEs]; exact hw))
        ·have hi : i = (ws.getD y []).length - 1 := by omega
         have hcc := hly.2 ((ws.getD y []).length - 1) (by omega)
         have hel : (addEs ⟨M, (((minD d).fin.length * (1 + inr ws ws.length) : Nat) : Int), 0, 0, []⟩ (imI (minD d) ws p ++ roI (minD d) ws p y ++ chI (minD d).fin.length ws p y i)).es.length ≤ 1000000000 := (by show ([] ++ (imI (minD d) ws p ++ roI (minD d) ws p y ++ chI (minD d).fin.length ws p y i)).length ≤ _; simp only [List.length_append, List.length_nil, chI_len, hilen, hrlen]; omega)
         refine .exit (.then_exit (.then_exit (.block_exit ?_)))
         refine AK.then_ (hK36 _ ?_)
         refine AK.region ?_
         refine .mv rfl (.mv rfl (.mv rfl (.mv rfl (.v (.lenS un9 rfl) ?_))))
         refine .v (.subE ((((ws.getD y []).length - 1 : Nat) : Int)) rfl rfl (by have := hne y (by omega); omega) (by omega)) ?_
         first | refine .v (.idxSN un9 rfl rfl (by omega)) ?_ | refine .v (.idxS un9 rfl rfl (by omega)) ?_
         refine .v (.subU8 rfl rfl (by omega)) ?_
         refine .v (.convI (by kernel_rfl) un3 rfl (wrap_i64 (by omega))) ?_
         refine .mv rfl ?_
         refine AK.callM 0 rfl co70 rfl (fun w F hw hA => a_edge w F nb _ _ _ _ hel hA) trivial rfl ?_
         rintro r A o ⟨rfl, rfl⟩
         refine .nil (.block_normal ?_)
         refine AK.then_ (hK33 _ ?_)
         refine AK.region ?_
         refine .v (.add rfl rfl (by omega)) ?_
         refine .mv rfl (.nil ?_)
         refine AK.then_ (hK30 _ _ (y + 1) (by omega) (by omega) (.cons (slI rfl (by rw [nxI_x, hi])) (slr)) (fun w hw => by rw [addE_addEs] at hw; have e : imI (minD d) ws p ++ roI (minD d) ws p (y + 1) = imI (minD d) ws p ++ roI (minD d) ws p y ++ chI (minD d).fin.length ws p y ((ws.getD y []).length - 1) ++ [laI (minD d) ws p y] := (by simp [roI]); rw [e]; subst hi; exact hw))
      ·refine .exit (.then_exit (.then_exit (.block_exit (.block_normal ?_))))
       refine AK.then_ (hK27 _ ?_)
       refine AK.region ?_
       refine .v (.add rfl rfl (by omega)) ?_
       refine .mv rfl (.nil ?_)
       refine AK.then_ (hK24 _ _ (p + 1) (by omega) (by omega) (.cons (slI rfl (by rw [nxI_p]; have e : y = ws.length := (by omega); rw [e])) (slr)) (fun w hw => by have e : y = ws.length := (by omega); rw [e] at hw; exact hw))
    ·refine .exit (.then_exit (.then_exit (.block_exit ?_)))
     refine AK.then_ (hK22 _ ?_)
     refine .sr fun _ hK45 => ?_
     refine .mv rfl (.v (.fieldAddr fd32_1 rfl) (.v (.loadBox on3 rfl bsp rfl) ?_))
     refine AK.callM 0 rfl co66 rfl (fun w F hw hA => a_start w F nb _ _ hMs.1 hA) trivial rfl ?_
     rintro r A o ⟨rfl, rfl⟩
     refine .nt hK45 ?_
     refine .sr fun _ hK46 => ?_
     refine .mv rfl (.v (.fieldAddr fd32_2 rfl) (.v (.loadBox on29 rfl bsp rfl) ?_))
     refine AK.callN 0 rfl co67 rfl (fun w Fs hw hh hfr hal => a_finals w (Fs 0) nb _ mF (minD d).fin 0 (RdL.offOwn 2 hh rfl (by decide)) (by omega) (hh.at_ 0 _ rfl)) trivial rfl ?_
     rintro r A o ⟨rfl, rfl⟩
     refine .nt hK46 ?_
     refine .sr fun _ hK47 => ?_
     refine .mv rfl ?_
     refine AK.own' [autX 158 98 nb (imN (minD d) M ws), box bx8 32 4 [.int .i64 (minD d).L, .int .i64 (minD d).s, mF, mN], row mF 4 1 (minD d).fin.length ((minD d).fin.map Value.bool), row mN 67 1 (minD d).nx.length mrs, bigA (matG (Value.int .i64) 3 mrs (minD d).nx), box bx6 32 4 [.int .i64 0, .int .i64 0, .slice none 0 0, .slice none 0 0]] (fun w hw => by
      have e : ({ { addEs ⟨M, (((minD d).fin.length * (1 + inr ws ws.length) : Nat) : Int), 0, 0, []⟩ (imI (minD d) ws (minD d).fin.length) with st := (0 : W64) ||| bit (minD d).s } with fi := orF 0 (minD d).fin 0 (minD d).fin.length } : Nfa) = imN (minD d) M ws := by
       show (⟨M, _, (0 : W64) ||| bit (minD d).s, _, [] ++ imI (minD d) ws (minD d).fin.length⟩ : Nfa) = _
       have e0 : (0 : W64) ||| bit (minD d).s = bit (minD d).s := (by simp)
       rw [e0, List.nil_append]; rfl
      rw [← e]
      have e2 : p = (minD d).fin.length := by omega
      subst e2
      exact hw) ?_
     have hlen := imI_len (d := (minD d)) hne (minD d).fin.length
     refine AK.callN 0 rfl co68 rfl (fun w Fs hw hh hfr hal => a_lang w (Fs 0) nb (imN (minD d) M ws) (im_wn hM hws hne hS) ⟨by show 1 ≤ (imI (minD d) ws (minD d).fin.length).length; rw [hlen]; exact Nat.mul_pos (by omega) (by omega), by show (imI (minD d) ws (minD d).fin.length).length ≤ _; rw [hlen]; have h9 : (minD d).fin.length * (inr ws ws.length + ws.length) ≤ 64 * 70 := Nat.mul_le_mul (by omega) (by omega); omega⟩ (hT.at hw) (fun hb => by rcases hal 0 0 hb with h | h; exact absurd hT.lt (Nat.not_lt.2 h); exact h) (hh.at_ 0 _ rfl)) trivial rfl ?_
     rintro r A o ⟨d9, e, vF9, vN9, rs9, n2, hL9, hrs9, sF9, sN9, rfl, rfl, rfl⟩
     refine .v (.extract rfl rfl) (.v (.extract rfl rfl) ?_)
     refine AK.storeBox 5 (us := [.int .i64 d9.L, .int .i64 d9.s, vF9, vN9]) (cs' := [.int .i64 d9.L, .int .i64 d9.s, vF9, vN9]) rfl sz32 rfl rfl rfl rfl oneP (leb rfl) rfl trivial ?_
     refine .as rfl (.nt hK47 (.ret ?_))
     refine AK.retG [.cell 6 32, .tmp 7] rfl (.cons (.cell ag32 rfl bsp rfl rfl) (.cons (.tmp rfl) (.nil))) (fun w hw => ⟨_, _, ?_, rfl, Ret.of (hw.pick [6, 7, 8] (by decide) rfl rfl)⟩)
     exact ⟨d9, e, vF9, vN9, rs9, lng_img hv hws hne hS hL9, hrs9, sF9, sN9, rfl, rfl⟩

end Go.Proofs.YtbibnpdnmmgacaaGreatDoor

namespace Go.Sx
/-! ### images and inverse images -/
theorem sho_liv {d : Dfa} (hv : VD d) : (ShoV d).2 = true ↔ Liv d d.s := by
  constructor
  · intro h
    have h1 := sho_acc hv h
    have h2 := acc_valid h1
    rw [AccV_of hv h2] at h1
    unfold validW at h2
    rw [Bool.and_eq_true] at h2
    exact ⟨_, h2.2, h1⟩
  · intro h
    obtain ⟨r, h1, l, h2, h3, h4⟩ := liv_short hv hv.s h
    have hn := hv.n
    have hL := hv.L
    have hw : validW d.L l = true := by
      unfold validW
      rw [Bool.and_eq_true]
      exact ⟨decide_eq_true ⟨by omega, by omega, by omega⟩, h3⟩
    exact (sho_min hv (l := l) (by rw [AccV_of hv hw]; exact h4)).1
theorem byB4 (p q : Bool) : byB 4 p q = (p && !q) := by cases p <;> cases q <;> decide
theorem inr_three {ws : List (List UInt8)} (h : ∀ i, i < ws.length → (ws.getD i []).length ≤ 3) : ∀ k, k ≤ ws.length → inr ws k ≤ 2 * k
  | 0, _ => Nat.le_refl _
  | k + 1, hk => by
    have := inr_three h k (by omega)
    have := h k (by omega)
    simp only [inr]; omega
theorem adj_ok {a b x y up dn : Dfa} {ws : List (List UInt8)} (hw : WsOk a.L a.L ws) (hup : VD up) (hdn : VD dn) (hxL : x.L = a.L) (huL : up.L = x.L) (hdL : dn.L = a.L)
    (hx : ∀ l : List UInt8, l.all (okB a.L) = true → (finQ x (runI x x.s l) = true ↔ ∃ u : List UInt8, u.all (okB a.L) = true ∧ l = hW ws u ∧ langD a u))
    (hy : ∀ l : List UInt8, l.all (okB a.L) = true → (finQ y (runI y y.s l) = true ↔ langD b (hW ws l)))
    (h1 : ∀ l : List UInt8, l.all (okB x.L) = true → (finQ up (runI up up.s l) = true ↔ byB 4 (finQ x (runI x x.s l)) (finQ b (runI b b.s l)) = true))
    (h2 : ∀ l : List UInt8, l.all (okB a.L) = true → (finQ dn (runI dn dn.s l) = true ↔ byB 4 (finQ a (runI a a.s l)) (finQ y (runI y y.s l)) = true)) : (ShoV up).2 = (ShoV dn).2 := by
  rw [Bool.eq_iff_iff, sho_liv hup, sho_liv hdn]
  rw [hxL] at huL h1
  constructor
  · rintro ⟨l, hl, hf⟩
    have hl : l.all (okB a.L) = true := by rw [← huL]; exact hl
    rw [h1 l hl, byB4, Bool.and_eq_true, hx l hl] at hf
    obtain ⟨⟨u, a1, rfl, a2⟩, a3⟩ := hf
    refine ⟨u, by unfold Okw; rw [hdL]; exact a1, ?_⟩
    rw [h2 u a1, byB4, Bool.and_eq_true]
    refine ⟨a2, ?_⟩
    cases h3 : finQ y (runI y y.s u) with
    | false => rfl
    | true =>
      have := (hy u a1).1 h3
      unfold langD at this; rw [this] at a3; cases a3
  · rintro ⟨u, hu, hf⟩
    have hu : u.all (okB a.L) = true := by rw [← hdL]; exact hu
    rw [h2 u hu, byB4, Bool.and_eq_true] at hf
    obtain ⟨a1, a2⟩ := hf
    have hl := hw.h u hu
    refine ⟨hW ws u, by unfold Okw; rw [huL]; exact hl, ?_⟩
    rw [h1 _ hl, byB4, Bool.and_eq_true]
    refine ⟨(hx _ hl).2 ⟨u, hu, rfl, a1⟩, ?_⟩
    cases h3 : finQ b (runI b b.s (hW ws u)) with
    | false => rfl
    | true => rw [(hy u hu).2 h3] at a2; cases a2
end Go.Sx

namespace Go.Proofs.YtbibnpdnmmgacaaGreatDoor
open Go.Sx Go.RowKit
def smallB (d : Dfa) (m : Int) : Bool := decide ((d.fin.length : Int) ≤ m) && (decide (d.L ≤ 2) && decide (errV d = 0))
theorem smallB_iff {d : Dfa} {m : Int} : smallB d m = true ↔ (d.fin.length : Int) ≤ m ∧ d.L ≤ 2 ∧ VD d := by unfold smallB; simp [errV_iff]
theorem s_small (w : World) (v : Value) (d : Dfa) (h : RdD (fun _ => False) w v d) (m : Int) : CallS Tryz.prog 25 [v, .int .i64 m] w (fun r o => r = .bool (smallB d m) ∧ o = []) := by
 have h0 := h
 obtain ⟨vF, vN, rfl, hF, hN⟩ := h
 have hF0 := hF
 have hN0 := hN
 obtain ⟨rs, hrl, hNr, hNi⟩ := hN
 have sF := hF.sl
 have sN := hNr.sl
 have hmf := hF.le
 have hmn := hNr.le
 unfold RdL at hF
 refine spec_of Tryz.func25 rfl (leb rfl) ?_
 refine .sr fun _ hK1 => ?_
 refine AK.box_ (E := 32) (cs := [.int .i64 d.L, .int .i64 d.s, vF, vN]) rfl rfl rfl trivial rfl (fun bx2 => ?_)
 refine .as rfl (.nt hK1 ?_)
 refine .sr fun _ hK2 => ?_
 refine .v (.fieldAddr fd32_2 rfl) (.v (.loadBox on29 rfl bsp rfl) (.v (.lenR sl29 rfl rdp) (.mv rfl (.v (.leq rfl rfl) (.mv rfl ?_)))))
 refine AK.splitB (g := 10) rfl (fun hg_1_5 => ?_) (fun hg_1_5 => ?_)
 ·have hg_1_5' := hg_1_5
  try simp only [bs] at hg_1_5'
  refine AK.val _ (Yl.fieldAddr fd32_0 rfl) ⟨_, rfl, gB hg_1_5⟩ rfl ?_
  refine AK.val _ (Yl.loadBox on3 rfl bsp rfl) ⟨_, rfl, gB hg_1_5⟩ rfl ?_
  refine AK.val _ (Yl.leq rfl rfl) ⟨_, rfl, gB hg_1_5⟩ rfl ?_
  refine .v (.pickT rfl (hg_1_5) rfl) (.mv rfl ?_)
  refine AK.splitB (g := 15) rfl (fun hg_1_10 => ?_) (fun hg_1_10 => ?_)
  ·have hg_1_10' := hg_1_10
   try simp only [bs] at hg_1_10'
   refine AK.val _ (Yl.loadBoxG ag32 rfl bsp rfl rfl) ⟨_, rfl, gB hg_1_10⟩ rfl ?_
   refine AK.call co72 rfl (fun w hw => s_refvalidate w _ d (h0.at hw)) ⟨_, rfl, gB hg_1_10⟩ rfl ?_
   rintro r o ⟨rfl, rfl⟩
   refine AK.val _ (Yl.eql rfl rfl) ⟨_, rfl, gB hg_1_10⟩ rfl ?_
   refine .v (.pickT rfl (hg_1_10) rfl) (.as rfl (.nt hK2 (.ret ?_)))
   refine AK.ret1 rfl rfl (fun w hw => ⟨_, _, ?_, rfl, Ret.of (hw.pick [] (by decide) rfl rfl)⟩)
   refine ⟨congrArg Value.bool ?_, rfl⟩
   unfold smallB
   first | (simp_all; done) | (simp_all <;> omega)
  ·have hg_1_10' := hg_1_10
   try simp only [bs] at hg_1_10'
   refine AK.pass rfl rfl (hg_1_10) rfl ?_
   refine AK.pass rfl rfl (hg_1_10) rfl ?_
   refine AK.pass rfl rfl (hg_1_10) rfl ?_
   refine .v (.pickF rfl (hg_1_10) rfl) (.as rfl (.nt hK2 (.ret ?_)))
   refine AK.ret1 rfl rfl (fun w hw => ⟨_, _, ?_, rfl, Ret.of (hw.pick [] (by decide) rfl rfl)⟩)
   refine ⟨congrArg Value.bool ?_, rfl⟩
   unfold smallB
   first | (simp_all; done) | (simp_all <;> omega)
 ·have hg_1_5' := hg_1_5
  try simp only [bs] at hg_1_5'
  refine AK.pass rfl rfl (hg_1_5) rfl ?_
  refine AK.pass rfl rfl (hg_1_5) rfl ?_
  refine AK.pass rfl rfl (hg_1_5) rfl ?_
  refine .v (.pickF rfl (hg_1_5) rfl) (.mv rfl ?_)
  refine AK.pass rfl rfl rfl rfl ?_
  refine AK.pass rfl rfl rfl rfl ?_
  refine AK.pass rfl rfl rfl rfl ?_
  refine .v (.pickF rfl (rfl) rfl) (.as rfl (.nt hK2 (.ret ?_)))
  refine AK.ret1 rfl rfl (fun w hw => ⟨_, _, ?_, rfl, Ret.of (hw.pick [] (by decide) rfl rfl)⟩)
  refine ⟨congrArg Value.bool ?_, rfl⟩
  unfold smallB
  first | (simp_all; done) | (simp_all <;> omega)

theorem s_lim (w : World) (f : Int) (hf : f = 0 ∨ f = 3) : CallS Tryz.prog 13 [.int .i64 f] w (fun r o => r = .bool true ∧ o = []) := by
 refine spec_of Tryz.func13 rfl (leb rfl) ?_
 refine .sr fun _ hK1 => ?_
 refine .as rfl (.nt hK1 ?_)
 refine .sr fun _ hK2 => ?_
 refine .mv rfl (.v (.eql rfl rfl) (.mv rfl ?_))
 refine AK.splitB (g := 5) rfl (fun hg_1_2 => ?_) (fun hg_1_2 => ?_)
 ·have hg_1_2' := hg_1_2
  try simp only [bs] at hg_1_2'
  refine AK.pass rfl rfl (hg_1_2) rfl ?_
  refine AK.pass rfl rfl (hg_1_2) rfl ?_
  refine .v (.pickT rfl (hg_1_2) rfl) (.as rfl (.nt hK2 (.ret ?_)))
  refine AK.ret1 rfl rfl (fun w hw => ⟨_, _, ?_, rfl, Ret.of (hw.pick [] (by decide) rfl rfl)⟩)
  refine ⟨congrArg Value.bool ?_, rfl⟩
  first | (simp_all; done) | (simp_all <;> omega)
 ·have hg_1_2' := hg_1_2
  try simp only [bs] at hg_1_2'
  refine AK.val _ (Yl.move rfl) ⟨_, rfl, gB hg_1_2⟩ rfl ?_
  refine AK.val _ (Yl.eql rfl rfl) ⟨_, rfl, gB hg_1_2⟩ rfl ?_
  refine .v (.pickF rfl (hg_1_2) rfl) (.as rfl (.nt hK2 (.ret ?_)))
  refine AK.ret1 rfl rfl (fun w hw => ⟨_, _, ?_, rfl, Ret.of (hw.pick [] (by decide) rfl rfl)⟩)
  refine ⟨congrArg Value.bool ?_, rfl⟩
  first | (simp_all; done) | (simp_all <;> omega)

end Go.Proofs.YtbibnpdnmmgacaaGreatDoor

namespace Go.Proofs.YtbibnpdnmmgacaaGreatDoor
open Go.Sx Go.RowKit
theorem acc_next {d : Dfa} (hv : VD d) {i : Nat} (hi : i < (TSt d).length) :
    i < (exI (stepQ d) d.L.toNat d.s 0 i).length ∧ (TrimV d).nx.getD i [] = (List.range d.L.toNat).map (fun x => ((posN (TSt d) (stepQ d ((exI (stepQ d) d.L.toNat d.s 0 i).getD i 0) x) : Nat) : Int)) := by
  obtain ⟨h1, h2, h3⟩ := tst_fix hv
  refine ⟨exI_all h1 i hi, ?_⟩
  have e := (exI_at h1 hi).1
  rw [h2] at e
  rw [show TrimV d = trimD d from if_pos hv]
  unfold trimD
  rw [← e]
  simp [List.getD_eq_getElem?_getD, hi]
theorem acc_new {d : Dfa} (hv : VD d) {i : Nat} (hi : i < (TSt d).length) {j : Nat} (hj : j < d.L.toNat) (q : Int) (eq : q = (exI (stepQ d) d.L.toNat d.s 0 i).getD i 0) (l : List Int) (el : l = exI (stepQ d) d.L.toNat d.s 0 i) (h : posN (TSt d) (stepQ d q j) = (exR (stepQ d) q l j).length) :
    stepQ d q j ∉ exR (stepQ d) q l j ∧ (exR (stepQ d) q l j).length < (TSt d).length := by
  subst eq; subst el
  obtain ⟨h1, h2, h3⟩ := tst_fix hv
  obtain ⟨⟨ys, e⟩, _⟩ := exR_in h1 hi (k := j + 1) (by omega)
  rw [h2] at e
  have hm : stepQ d ((exI (stepQ d) d.L.toNat d.s 0 i).getD i 0) j ∈ exR (stepQ d) ((exI (stepQ d) d.L.toNat d.s 0 i).getD i 0) (exI (stepQ d) d.L.toNat d.s 0 i) (j + 1) := insN_mem _ _
  have hm2 : stepQ d ((exI (stepQ d) d.L.toNat d.s 0 i).getD i 0) j ∈ TSt d := by rw [e]; exact List.mem_append_left _ hm
  refine ⟨fun hin => ?_, by rw [← h]; exact posN_lt hm2⟩
  obtain ⟨⟨zs, e2⟩, _⟩ := exR_in h1 hi (k := j) (by omega)
  rw [h2] at e2
  rw [e2, posN_append _ hin] at h
  have := posN_lt hin; omega
theorem acc_old {d : Dfa} (hv : VD d) {i : Nat} (hi : i < (TSt d).length) {j : Nat} (hj : j < d.L.toNat) (q : Int) (eq : q = (exI (stepQ d) d.L.toNat d.s 0 i).getD i 0) (l : List Int) (el : l = exI (stepQ d) d.L.toNat d.s 0 i) (h : ¬ posN (TSt d) (stepQ d q j) = (exR (stepQ d) q l j).length) :
    stepQ d q j ∈ exR (stepQ d) q l j := by
  subst eq; subst el
  obtain ⟨h1, h2, h3⟩ := tst_fix hv
  obtain ⟨⟨ys, e⟩, _⟩ := exR_in h1 hi (k := j + 1) (by omega)
  rw [h2] at e
  have hm : stepQ d ((exI (stepQ d) d.L.toNat d.s 0 i).getD i 0) j ∈ exR (stepQ d) ((exI (stepQ d) d.L.toNat d.s 0 i).getD i 0) (exI (stepQ d) d.L.toNat d.s 0 i) (j + 1) := insN_mem _ _
  by_cases hin : stepQ d ((exI (stepQ d) d.L.toNat d.s 0 i).getD i 0) j ∈ exR (stepQ d) ((exI (stepQ d) d.L.toNat d.s 0 i).getD i 0) (exI (stepQ d) d.L.toNat d.s 0 i) j
  · exact hin
  · refine absurd ?_ h
    rw [e, posN_append _ hm, show exR (stepQ d) ((exI (stepQ d) d.L.toNat d.s 0 i).getD i 0) (exI (stepQ d) d.L.toNat d.s 0 i) (j + 1) = exR (stepQ d) ((exI (stepQ d) d.L.toNat d.s 0 i).getD i 0) (exI (stepQ d) d.L.toNat d.s 0 i) j ++ [stepQ d ((exI (stepQ d) d.L.toNat d.s 0 i).getD i 0) j] from if_neg hin]
    have : ∀ (xs : List Int) (y : Int), y ∉ xs → posN (xs ++ [y]) y = xs.length := fun xs y hy => by
      induction xs with
      | nil => simp [posN]
      | cons b xs ih =>
        simp only [List.mem_cons, not_or] at hy
        simp only [List.cons_append, posN, if_neg hy.1, ih hy.2, List.length_cons]
    exact this _ _ hin
theorem trimV_le (d : Dfa) : (TrimV d).fin.length ≤ 512 ∧ (TrimV d).nx.length = (TrimV d).fin.length := by
  unfold TrimV
  split
  · rename_i hv
    have := (TSt_ok hv).2.2.1
    have := hv.n
    simp [trimD]; omega
  · exact ⟨by decide, rfl⟩
set_option maxHeartbeats 1000000 in
theorem s_access (w : World) (v : Value) (d : Dfa) (h : RdD (fun _ => False) w v d) : CallS Tryz.prog 75 [v] w (fun r o => IsSl r ∧ o = [row r 9 1 (AccW d).length ((AccW d).map sv)]) := by
 have h0 := h
 obtain ⟨vF, vN, rfl, hF, hN⟩ := h
 have hF0 := hF
 have hN0 := hN
 obtain ⟨rs, hrl, hNr, hNi⟩ := hN
 have sF := hF.sl
 have sN := hNr.sl
 have hmf := hF.le
 have hmn := hNr.le
 unfold RdL at hF
 obtain ⟨htl5, htnf⟩ := trimV_le d
 refine spec_of Tryz.func75 rfl (leb rfl) ?_
 refine .sr fun _ hK1 => ?_
 refine AK.box_ (E := 32) (cs := [.int .i64 d.L, .int .i64 d.s, vF, vN]) rfl rfl rfl trivial rfl (fun bx1 => ?_)
 refine .as rfl (.nt hK1 ?_)
 refine .sr fun _ hK2 => ?_
 refine .v (.loadBoxG ag32 rfl bsp rfl rfl) ?_
 refine AK.call co74 rfl (fun w hw => s_trim w _ d (h0.at hw)) trivial rfl ?_
 rintro r o ⟨tF, tN, tM, trs, rfl, htrs, stF, stN, stM, rfl⟩
 refine .mv rfl (.v (.extract rfl rfl) (.v (.extract rfl rfl) ?_))
 refine AK.alloc el32 rfl rfl trivial rfl (fun bx3 => ?_)
 refine AK.storeBox 5 (us := [.int .i64 (TrimV d).L, .int .i64 (TrimV d).s, tF, tN]) (cs' := [.int .i64 (TrimV d).L, .int .i64 (TrimV d).s, tF, tN]) rfl sz32 rfl rfl rfl rfl oneP (leb rfl) rfl trivial ?_
 refine .as rfl (.nt hK2 ?_)
 refine .sr fun _ hK3 => ?_
 refine .v (.fieldAddr fd32_2 rfl) (.v (.loadBox on29 rfl bsp rfl) ?_)
 refine .v (.lenR sl29 rfl (by first | exact rdp | exact (RdS.big 3 _ rfl (matG_get htrs (by omega))))) ?_
 refine AK.make1 (n := (TrimV d).fin.length) sl56 el9 rfl rfl rfl (by omega) (by omega) trivial rfl (fun lv => ?_)
 refine AK.shape 6 rfl (fun slv => ?_)
 refine AK.lenBd 1 rfl (fun hml => ?_)
 refine AK.lenBd 2 rfl (fun hmn => ?_)
 refine .as rfl (.nt hK3 ?_)
 refine .sr fun _ hK4 => ?_
 refine .as rfl (.nt hK4 ?_)
 refine .seq fun _ hK5 => ?_
 refine .sr fun _ hK6 => ?_
 refine .v (.fieldAddr fd32_3 rfl) (.v (.loadBox on30 rfl bsp rfl) ?_)
 refine .v (.lenR sl30 rfl (by first | exact rdp | exact (RdS.big 3 _ rfl (matG_get htrs (by omega))))) ?_
 refine .mv rfl (.nt hK6 (.block ?_))
 refine AK.loopK (X := Nat) [(5, _), (21, _), (22, _)] (fun x => [(6, .int .i64 ((exI (stepQ d) d.L.toNat d.s 0 x).length : Int)), (23, .int .i64 (x : Int))]) (fun x => ([box bx1 32 4 [.int .i64 d.L, .int .i64 d.s, vF, vN]] ++ dfaO 4 3 67 tF tN trs (TrimV d) ++ [row tM 3 1 (NumV d).length ((NumV d).map (Value.int .i64)), box bx3 32 4 [.int .i64 (TrimV d).L, .int .i64 (TrimV d).s, tF, tN]] ++ [row lv 9 1 (TrimV d).fin.length ((AW d (exIw (stepQ d) d.L.toNat d.s 0 x)).map sv)])) (fun x => x ≤ (TrimV d).nx.length) (fun x => (TrimV d).nx.length - x) (0) slr ?_ ?_ ?_ ?_
 ·exact Nat.zero_le _
 ·exact slr
 ·exact fun w hw => by show HW _ ([box bx1 32 4 [.int .i64 d.L, .int .i64 d.s, vF, vN]] ++ dfaO 4 3 67 tF tN trs (TrimV d) ++ [row tM 3 1 (NumV d).length ((NumV d).map (Value.int .i64)), box bx3 32 4 [.int .i64 (TrimV d).L, .int .i64 (TrimV d).s, tF, tN]] ++ [row lv 9 1 (TrimV d).fin.length ((AW d (exIw (stepQ d) d.L.toNat d.s 0 0)).map sv)]) w; rw [show (exIw (stepQ d) d.L.toNat d.s 0 0) = [[]] from rfl, AW_zero, List.map_replicate]; exact hw
 ·intro x hg0 _ hK7
  refine .sr fun _ hK8 => ?_
  refine .v (.lss rfl rfl) (.nt hK8 ?_)
  refine .seq fun _ hK9 => ?_
  refine AK.condD rfl (fun hc0 => ?_) (fun hc0 => ?_)
  ·have hv : VD d := by
    by_cases hv : VD d
    ·exact hv
    ·rw [show TrimV d = nilD from if_neg hv] at hc0; simp [nilD] at hc0; omega
   have hL := hv.L
   have hn5 := hv.n
   have hTn := TSt_ok hv
   have hTl : (TrimV d).nx.length = (TSt d).length ∧ (TrimV d).fin.length = (TSt d).length := by rw [show TrimV d = trimD d from if_pos hv]; simp [trimD]
   have hxm : x < (TSt d).length := by omega
   obtain ⟨hlt, hrow⟩ := acc_next hv hxm
   have hrl : ((TrimV d).nx.getD x []).length = d.L.toNat := by rw [hrow]; simp
   have hwl := exIw_len (f := stepQ d) (L := d.L.toNat) (s := d.s) (z := 0) x
   have hrl2 := fun k => exRw_len (f := stepQ d) (q := ((exI (stepQ d) d.L.toNat d.s 0 x).getD x 0)) (wq := ((exIw (stepQ d) d.L.toNat d.s 0 x).getD x [])) hwl k
   have hww : ∀ i, i < (exIw (stepQ d) d.L.toNat d.s 0 x).length → ((exIw (stepQ d) d.L.toNat d.s 0 x).getD i []).length ≤ 2 * (x + 1) * 8 := fun i hi => exIw_wd x i hi
   have hbd := exI_bd (z := 0) (start_univ hv) (step_univ hv)
   rw [univ_len] at hbd
   have hb0 := hbd x
   have hawl := fun ws h => AW_len hv (ws := ws) h
   refine .skip ?_
   refine AK.then_ (hK9 _ ?_)
   refine .seq fun _ hK10 => ?_
   refine .block ?_
   refine .sr fun _ hK11 => ?_
   refine .mv rfl ?_
   first | refine .v (.iN sl30 rfl rfl (hr := (by first | exact rdp | exact (RdS.big 3 _ rfl (matG_get htrs (by omega)))))) ?_ | refine .v (.iK sl30 rfl rfl (hr := (by first | exact rdp | exact (RdS.big 3 _ rfl (matG_get htrs (by omega)))))) ?_
   refine .v (.loadV on67 rfl (by first | exact rdp | exact (RdS.big 3 _ rfl (matG_get htrs (by omega)))) (by omega)) ?_
   refine .as rfl (.as rfl (.nt hK11 ?_))
   refine .sr fun _ hK12 => ?_
   refine .mv rfl ?_
   refine .v (.lenR sl67 rfl (by first | exact rdp | exact (RdS.big 3 _ rfl (matG_get htrs (by omega))))) ?_
   refine .mv rfl (.nt hK12 (.block ?_))
   refine AK.loopK (X := Nat) [(5, _), (7, _), (21, _), (22, _), (23, _), (28, _), (29, _)] (fun y => [(6, .int .i64 ((exR (stepQ d) ((exI (stepQ d) d.L.toNat d.s 0 x).getD x 0) (exI (stepQ d) d.L.toNat d.s 0 x) y).length : Int)), (30, .int .i64 (y : Int))]) (fun y => ([box bx1 32 4 [.int .i64 d.L, .int .i64 d.s, vF, vN]] ++ dfaO 4 3 67 tF tN trs (TrimV d) ++ [row tM 3 1 (NumV d).length ((NumV d).map (Value.int .i64)), box bx3 32 4 [.int .i64 (TrimV d).L, .int .i64 (TrimV d).s, tF, tN]] ++ [row lv 9 1 (TrimV d).fin.length ((AW d (exRw (stepQ d) ((exI (stepQ d) d.L.toNat d.s 0 x).getD x 0) ((exIw (stepQ d) d.L.toNat d.s 0 x).getD x []) (exI (stepQ d) d.L.toNat d.s 0 x) (exIw (stepQ d) d.L.toNat d.s 0 x) y)).map sv)])) (fun y => y ≤ d.L.toNat) (fun y => d.L.toNat - y) (0) slr ?_ ?_ ?_ ?_
   ·exact Nat.zero_le _
   ·exact slr
   ·exact fun w hw => hw
   ·intro y hg1 _ hK13
    refine .sr fun _ hK14 => ?_
    refine .v (.lss rfl rfl) (.nt hK14 ?_)
    refine .seq fun _ hK15 => ?_
    refine AK.condD rfl (fun hc1 => ?_) (fun hc1 => ?_)
    ·have hyL : y < d.L.toNat := by omega
     have hto : (((TrimV d).nx.getD x []).getD y 0) = ((posN (TSt d) (stepQ d ((exI (stepQ d) d.L.toNat d.s 0 x).getD x 0) y) : Nat) : Int) := by rw [hrow]; simp [List.getD_eq_getElem?_getD, hyL]
     have hrp : (exIw (stepQ d) d.L.toNat d.s 0 x).length ≤ (exRw (stepQ d) ((exI (stepQ d) d.L.toNat d.s 0 x).getD x 0) ((exIw (stepQ d) d.L.toNat d.s 0 x).getD x []) (exI (stepQ d) d.L.toNat d.s 0 x) (exIw (stepQ d) d.L.toNat d.s 0 x) y).length := by obtain ⟨ys, e⟩ := exRw_pre (stepQ d) ((exI (stepQ d) d.L.toNat d.s 0 x).getD x 0) ((exIw (stepQ d) d.L.toNat d.s 0 x).getD x []) (exI (stepQ d) d.L.toNat d.s 0 x) (exIw (stepQ d) d.L.toNat d.s 0 x) y; rw [e, List.length_append]; omega
     have hrl3 := hrl2 y
     have hgw : ((exRw (stepQ d) ((exI (stepQ d) d.L.toNat d.s 0 x).getD x 0) ((exIw (stepQ d) d.L.toNat d.s 0 x).getD x []) (exI (stepQ d) d.L.toNat d.s 0 x) (exIw (stepQ d) d.L.toNat d.s 0 x) y).getD x []) = ((exIw (stepQ d) d.L.toNat d.s 0 x).getD x []) := exRw_get _ (by omega)
     have hag : ((AW d (exRw (stepQ d) ((exI (stepQ d) d.L.toNat d.s 0 x).getD x 0) ((exIw (stepQ d) d.L.toNat d.s 0 x).getD x []) (exI (stepQ d) d.L.toNat d.s 0 x) (exIw (stepQ d) d.L.toNat d.s 0 x) y)).getD x []) = ((exIw (stepQ d) d.L.toNat d.s 0 x).getD x []) := (AW_get hv (by omega)).trans hgw
     have hwx := hww x (by omega)
     refine .skip ?_
     refine AK.then_ (hK15 _ ?_)
     refine .seq fun _ hK16 => ?_
     refine .block ?_
     refine .sr fun _ hK17 => ?_
     refine .mv rfl ?_
     first | refine .v (.iN sl67 rfl rfl (hr := (by first | exact rdp | exact (RdS.big 3 _ rfl (matG_get htrs (by omega)))))) ?_ | refine .v (.iK sl67 rfl rfl (hr := (by first | exact rdp | exact (RdS.big 3 _ rfl (matG_get htrs (by omega)))))) ?_
     refine .v (.loadI on3 rfl (by first | exact rdp | exact (RdS.big 3 _ rfl (matG_get htrs (by omega)))) (by omega)) ?_
     refine .as rfl (.as rfl (.nt hK17 ?_))
     refine .sr fun _ hK18 => ?_
     refine .mv rfl (.mv rfl (.v (.eql rfl rfl) (.nt hK18 ?_)))
     refine AK.condD rfl (fun hc2 => ?_) (fun hc2 => ?_)
     ·rw [hto] at hc2
      have hnw := acc_new hv hxm hyL _ rfl _ rfl (show posN (TSt d) (stepQ d ((exI (stepQ d) d.L.toNat d.s 0 x).getD x 0) y) = (exR (stepQ d) ((exI (stepQ d) d.L.toNat d.s 0 x).getD x 0) (exI (stepQ d) d.L.toNat d.s 0 x) y).length by omega)
      have hal := AW_len hv (ws := (exRw (stepQ d) ((exI (stepQ d) d.L.toNat d.s 0 x).getD x 0) ((exIw (stepQ d) d.L.toNat d.s 0 x).getD x []) (exI (stepQ d) d.L.toNat d.s 0 x) (exIw (stepQ d) d.L.toNat d.s 0 x) y)) (by omega)
      refine .sr fun _ hK19 => ?_
      refine .mv rfl (.mv rfl (.mv rfl (.mv rfl ?_)))
      first | refine .v (.iN sl56 rfl rfl (hr := (by first | exact rdp | exact (RdS.big 3 _ rfl (matG_get htrs (by omega)))))) ?_ | refine .v (.iK sl56 rfl rfl (hr := (by first | exact rdp | exact (RdS.big 3 _ rfl (matG_get htrs (by omega)))))) ?_
      refine .v (.loadS on9 rfl (by first | exact rdp | exact (RdS.big 3 _ rfl (matG_get htrs (by omega)))) (by omega)) ?_
      refine .mv rfl ?_
      refine .v (.add rfl rfl (by omega)) ?_
      refine .v (.convI (by kernel_rfl) un21 rfl (wrap_i32 (by omega))) ?_
      refine .v (.runeS (by kernel_rfl) un9 rfl (by omega)) ?_
      refine .v (.concat rfl rfl (by rw [hag]; simp only [List.length_cons, List.length_nil]; omega)) ?_
      first | refine .v (.iN sl56 rfl rfl (hr := (by first | exact rdp | exact (RdS.big 3 _ rfl (matG_get htrs (by omega)))))) ?_ | refine .v (.iK sl56 rfl rfl (hr := (by first | exact rdp | exact (RdS.big 3 _ rfl (matG_get htrs (by omega)))))) ?_
      refine AK.store1e 6 rfl sz9 rfl rfl rfl rfl (by omega) (cs' := ((AW d ((exRw (stepQ d) ((exI (stepQ d) d.L.toNat d.s 0 x).getD x 0) ((exIw (stepQ d) d.L.toNat d.s 0 x).getD x []) (exI (stepQ d) d.L.toNat d.s 0 x) (exIw (stepQ d) d.L.toNat d.s 0 x) y) ++ [((exIw (stepQ d) d.L.toNat d.s 0 x).getD x []) ++ [ltr y]])).map sv)) (by rw [← AW_set hv (by omega), List.map_set, hag, hto, show ((posN (TSt d) (stepQ d ((exI (stepQ d) d.L.toNat d.s 0 x).getD x 0) y) : Nat) : Int).toNat = (exRw (stepQ d) ((exI (stepQ d) d.L.toNat d.s 0 x).getD x 0) ((exIw (stepQ d) d.L.toNat d.s 0 x).getD x []) (exI (stepQ d) d.L.toNat d.s 0 x) (exIw (stepQ d) d.L.toNat d.s 0 x) y).length by omega]; rfl) trivial ?_
      refine .nt hK19 ?_
      refine AK.region ?_
      refine .mv rfl ?_
      refine .v (.add rfl rfl (by omega)) ?_
      refine .as rfl (.nil (.block_normal ?_))
      refine AK.then_ (hK16 _ ?_)
      refine AK.region ?_
      refine .v (.add rfl rfl (by omega)) ?_
      refine .mv rfl (.nil ?_)
      first | refine AK.then_ (hK13 _ _ (y + 1) (by omega) (by omega) (.cons (congrArg (fun (k : Int) => some (Value.int .i64 k)) (by rw [show (exR (stepQ d) ((exI (stepQ d) d.L.toNat d.s 0 x).getD x 0) (exI (stepQ d) d.L.toNat d.s 0 x) (y + 1)) = (exR (stepQ d) ((exI (stepQ d) d.L.toNat d.s 0 x).getD x 0) (exI (stepQ d) d.L.toNat d.s 0 x) y) ++ [(stepQ d ((exI (stepQ d) d.L.toNat d.s 0 x).getD x 0) y)] from if_neg hnw.1]; simp)) (slr)) (fun w hw => by rw [show (exRw (stepQ d) ((exI (stepQ d) d.L.toNat d.s 0 x).getD x 0) ((exIw (stepQ d) d.L.toNat d.s 0 x).getD x []) (exI (stepQ d) d.L.toNat d.s 0 x) (exIw (stepQ d) d.L.toNat d.s 0 x) (y + 1)) = (exRw (stepQ d) ((exI (stepQ d) d.L.toNat d.s 0 x).getD x 0) ((exIw (stepQ d) d.L.toNat d.s 0 x).getD x []) (exI (stepQ d) d.L.toNat d.s 0 x) (exIw (stepQ d) d.L.toNat d.s 0 x) y) ++ [((exIw (stepQ d) d.L.toNat d.s 0 x).getD x []) ++ [ltr y]] from if_neg hnw.1]; exact hw)) | refine AK.then_ (hK13 _ _ (y + 1) (by omega) (by omega) (.cons (congrArg (fun (k : Nat) => some (Value.int .i64 (k : Int))) (by rw [show (exR (stepQ d) ((exI (stepQ d) d.L.toNat d.s 0 x).getD x 0) (exI (stepQ d) d.L.toNat d.s 0 x) (y + 1)) = (exR (stepQ d) ((exI (stepQ d) d.L.toNat d.s 0 x).getD x 0) (exI (stepQ d) d.L.toNat d.s 0 x) y) from if_pos hod])) (slr)) (fun w hw => by rw [show (exRw (stepQ d) ((exI (stepQ d) d.L.toNat d.s 0 x).getD x 0) ((exIw (stepQ d) d.L.toNat d.s 0 x).getD x []) (exI (stepQ d) d.L.toNat d.s 0 x) (exIw (stepQ d) d.L.toNat d.s 0 x) (y + 1)) = (exRw (stepQ d) ((exI (stepQ d) d.L.toNat d.s 0 x).getD x 0) ((exIw (stepQ d) d.L.toNat d.s 0 x).getD x []) (exI (stepQ d) d.L.toNat d.s 0 x) (exIw (stepQ d) d.L.toNat d.s 0 x) y) from if_pos hod]; exact hw))
     ·rw [hto] at hc2
      have hod := acc_old hv hxm hyL _ rfl _ rfl (show ¬ posN (TSt d) (stepQ d ((exI (stepQ d) d.L.toNat d.s 0 x).getD x 0) y) = (exR (stepQ d) ((exI (stepQ d) d.L.toNat d.s 0 x).getD x 0) (exI (stepQ d) d.L.toNat d.s 0 x) y).length by omega)
      refine .skip (.block_normal ?_)
      refine AK.then_ (hK16 _ ?_)
      refine AK.region ?_
      refine .v (.add rfl rfl (by omega)) ?_
      refine .mv rfl (.nil ?_)
      first | refine AK.then_ (hK13 _ _ (y + 1) (by omega) (by omega) (.cons (congrArg (fun (k : Int) => some (Value.int .i64 k)) (by rw [show (exR (stepQ d) ((exI (stepQ d) d.L.toNat d.s 0 x).getD x 0) (exI (stepQ d) d.L.toNat d.s 0 x) (y + 1)) = (exR (stepQ d) ((exI (stepQ d) d.L.toNat d.s 0 x).getD x 0) (exI (stepQ d) d.L.toNat d.s 0 x) y) ++ [(stepQ d ((exI (stepQ d) d.L.toNat d.s 0 x).getD x 0) y)] from if_neg hnw.1]; simp)) (slr)) (fun w hw => by rw [show (exRw (stepQ d) ((exI (stepQ d) d.L.toNat d.s 0 x).getD x 0) ((exIw (stepQ d) d.L.toNat d.s 0 x).getD x []) (exI (stepQ d) d.L.toNat d.s 0 x) (exIw (stepQ d) d.L.toNat d.s 0 x) (y + 1)) = (exRw (stepQ d) ((exI (stepQ d) d.L.toNat d.s 0 x).getD x 0) ((exIw (stepQ d) d.L.toNat d.s 0 x).getD x []) (exI (stepQ d) d.L.toNat d.s 0 x) (exIw (stepQ d) d.L.toNat d.s 0 x) y) ++ [((exIw (stepQ d) d.L.toNat d.s 0 x).getD x []) ++ [ltr y]] from if_neg hnw.1]; exact hw)) | refine AK.then_ (hK13 _ _ (y + 1) (by omega) (by omega) (.cons (congrArg (fun (k : Nat) => some (Value.int .i64 (k : Int))) (by rw [show (exR (stepQ d) ((exI (stepQ d) d.L.toNat d.s 0 x).getD x 0) (exI (stepQ d) d.L.toNat d.s 0 x) (y + 1)) = (exR (stepQ d) ((exI (stepQ d) d.L.toNat d.s 0 x).getD x 0) (exI (stepQ d) d.L.toNat d.s 0 x) y) from if_pos hod])) (slr)) (fun w hw => by rw [show (exRw (stepQ d) ((exI (stepQ d) d.L.toNat d.s 0 x).getD x 0) ((exIw (stepQ d) d.L.toNat d.s 0 x).getD x []) (exI (stepQ d) d.L.toNat d.s 0 x) (exIw (stepQ d) d.L.toNat d.s 0 x) (y + 1)) = (exRw (stepQ d) ((exI (stepQ d) d.L.toNat d.s 0 x).getD x 0) ((exIw (stepQ d) d.L.toNat d.s 0 x).getD x []) (exI (stepQ d) d.L.toNat d.s 0 x) (exIw (stepQ d) d.L.toNat d.s 0 x) y) from if_pos hod]; exact hw))
    ·refine .exit (.then_exit (.then_exit (.block_exit (.block_normal ?_))))
     refine AK.then_ (hK10 _ ?_)
     refine AK.region ?_
     refine .v (.add rfl rfl (by omega)) ?_
     refine .mv rfl (.nil ?_)
     refine AK.then_ (hK7 _ _ (x + 1) (by omega) (by omega) (.cons (congrArg (fun (k : Nat) => some (Value.int .i64 (k : Int))) (by rw [exI_next hlt, show y = d.L.toNat by omega])) (slr)) (fun w hw => by rw [exIw_next hlt]; rw [show y = d.L.toNat by omega] at hw; exact hw))
  ·refine .exit (.then_exit (.then_exit (.block_exit ?_)))
   refine AK.then_ (hK5 _ ?_)
   refine .sr fun _ hK20 => ?_
   refine .mv rfl (.as rfl (.nt hK20 (.ret ?_)))
   refine AK.ret1 rfl rfl (fun w hw => ⟨_, _, ?_, rfl, Ret.of (hw.pick [6] (by decide) rfl rfl)⟩)
   refine ⟨slv, ?_⟩
   have e : x = (TrimV d).nx.length := (by omega)
   by_cases hv : VD d
   ·obtain ⟨h1, h2, h3⟩ := tst_fix hv
    have hT : TrimV d = trimD d := if_pos hv
    have e2 : x = (TSt d).length := by rw [e, hT]; simp [trimD]
    have e3 : AW d (exIw (stepQ d) d.L.toNat d.s 0 x) = TWo d := by unfold AW; rw [if_pos hv, e2, h3, two_len hv, Nat.sub_self]; simp
    rw [e3, show AccW d = TWo d from if_pos hv, two_len hv, show (TrimV d).fin.length = (TSt d).length by rw [hT]; simp [trimD]]
    try rfl
   ·rw [show AW d (exIw (stepQ d) d.L.toNat d.s 0 x) = [] from if_neg hv, show AccW d = [] from if_neg hv, show TrimV d = nilD from if_neg hv]; rfl

end Go.Proofs.YtbibnpdnmmgacaaGreatDoor

namespace Go.Proofs.YtbibnpdnmmgacaaGreatDoor
open Go.Sx Go.RowKit
end Go.Proofs.YtbibnpdnmmgacaaGreatDoor

namespace Go.Proofs.YtbibnpdnmmgacaaGreatDoor
open Go.Sx Go.RowKit
theorem acc_vd {d : Dfa} {x : Nat} (h : x < (AccW d).length) : VD d ∧ AccW d = TWo d ∧ x < (TSt d).length ∧ (TrimV d) = trimD d := by
  by_cases hv : VD d
  · have e : AccW d = TWo d := if_pos hv
    exact ⟨hv, e, by rw [e, two_len hv] at h; exact h, if_pos hv⟩
  · rw [show AccW d = [] from if_neg hv] at h; simp at h
theorem trim_fin {d : Dfa} {i : Nat} (hi : i < (TSt d).length) : (trimD d).fin.getD i false = finQ d ((TSt d).getD i 0) := by
  simp [trimD, List.getD_eq_getElem?_getD, hi]
theorem acc_len (d : Dfa) : (AccW d).length = (TrimV d).fin.length := by
  unfold AccW TrimV
  split
  · rename_i hv; rw [two_len hv]; simp [trimD]
  · rfl
set_option maxHeartbeats 1000000 in
theorem s_shortest (w : World) (v : Value) (d : Dfa) (h : RdD (fun _ => False) w v d) : CallS Tryz.prog 29 [v] w (fun r o => r = .tuple #[sv (ShoV d).1, .bool (ShoV d).2] ∧ o = []) := by
 have h0 := h
 obtain ⟨vF, vN, rfl, hF, hN⟩ := h
 have hF0 := hF
 have hN0 := hN
 obtain ⟨rs, hrl, hNr, hNi⟩ := hN
 have sF := hF.sl
 have sN := hNr.sl
 have hmf := hF.le
 have hmn := hNr.le
 unfold RdL at hF
 obtain ⟨htl5, htnf⟩ := trimV_le d
 have hal := acc_len d
 refine spec_of Tryz.func29 rfl (leb rfl) ?_
 refine .sr fun _ hK1 => ?_
 refine AK.box_ (E := 32) (cs := [.int .i64 d.L, .int .i64 d.s, vF, vN]) rfl rfl rfl trivial rfl (fun bx1 => ?_)
 refine .as rfl (.as rfl (.nt hK1 ?_))
 refine .sr fun _ hK2 => ?_
 refine .v (.loadBoxG ag32 rfl bsp rfl rfl) ?_
 refine AK.call co74 rfl (fun w hw => s_trim w _ d (h0.at hw)) trivial rfl ?_
 rintro r o ⟨tF, tN, tM, trs, rfl, htrs, stF, stN, stM, rfl⟩
 refine .mv rfl (.v (.extract rfl rfl) (.v (.extract rfl rfl) ?_))
 refine AK.alloc el32 rfl rfl trivial rfl (fun bx4 => ?_)
 refine AK.storeBox 5 (us := [.int .i64 (TrimV d).L, .int .i64 (TrimV d).s, tF, tN]) (cs' := [.int .i64 (TrimV d).L, .int .i64 (TrimV d).s, tF, tN]) rfl sz32 rfl rfl rfl rfl oneP (leb rfl) rfl trivial ?_
 refine .as rfl (.nt hK2 ?_)
 refine .seq fun _ hK3 => ?_
 refine .sr fun _ hK4 => ?_
 refine .v (.loadBoxG ag32 rfl bsp rfl rfl) ?_
 refine AK.call co75 rfl (fun w hw => s_access w _ d (h0.at hw)) trivial rfl ?_
 rintro aw o ⟨saw, rfl⟩
 refine .v (.lenR sl56 rfl rdp) (.mv rfl (.nt hK4 (.block ?_)))
 refine AK.loopK (X := Nat) [(4, _), (14, _), (15, _)] (fun x => [(16, .int .i64 (x : Int))]) (fun x => ([box bx1 32 4 [.int .i64 d.L, .int .i64 d.s, vF, vN]] ++ dfaO 4 3 67 tF tN trs (TrimV d) ++ [row tM 3 1 (NumV d).length ((NumV d).map (Value.int .i64)), box bx4 32 4 [.int .i64 (TrimV d).L, .int .i64 (TrimV d).s, tF, tN], row aw 9 1 (AccW d).length ((AccW d).map sv)])) (fun x => x ≤ (AccW d).length ∧ ∀ j, j < x → finQ d ((TSt d).getD j 0) = false) (fun x => (AccW d).length - x) (0) slr ?_ ?_ ?_ ?_
 ·exact ⟨Nat.zero_le _, fun j hj => by omega⟩
 ·exact slr
 ·exact fun w hw => hw
 ·intro x hg0 _ hK5
  refine .sr fun _ hK6 => ?_
  refine .v (.lss rfl rfl) (.nt hK6 ?_)
  refine .seq fun _ hK7 => ?_
  refine AK.condD rfl (fun hc0 => ?_) (fun hc0 => ?_)
  ·obtain ⟨hv, haw, hxm, hte⟩ := acc_vd (d := d) (x := x) (by omega)
   have hfx : (TrimV d).fin.getD x false = finQ d ((TSt d).getD x 0) := by rw [hte]; exact trim_fin hxm
   refine .skip ?_
   refine AK.then_ (hK7 _ ?_)
   refine .seq fun _ hK8 => ?_
   refine .block ?_
   refine .sr fun _ hK9 => ?_
   refine .mv rfl ?_
   first | refine .v (.iN sl56 rfl rfl) ?_ | refine .v (.iK sl56 rfl rfl) ?_
   refine .v (.loadS on9 rfl rdp (by omega)) ?_
   refine .as rfl (.as rfl (.nt hK9 ?_))
   refine .sr fun _ hK10 => ?_
   refine .v (.fieldAddr fd32_2 rfl) (.v (.loadBox on29 rfl bsp rfl) (.mv rfl ?_))
   first | refine .v (.iN sl29 rfl rfl) ?_ | refine .v (.iK sl29 rfl rfl) ?_
   refine .v (.loadB on4 rfl rdp (by omega)) ?_
   refine .nt hK10 ?_
   refine AK.cond rfl (fun hc1 => ?_) (fun hc1 => ?_)
   ·try simp only [bs] at hc1
    refine .sr fun _ hK11 => ?_
    refine .mv rfl (.as rfl (.as rfl (.nt hK11 (.ret (.block_ret (.then_ret (.then_ret (.block_ret (.then_ret ?_)))))))))
    refine AK.ret2 rfl rfl rfl (fun w hw => ⟨_, _, ?_, rfl, Ret.of (hw.pick [] (by decide) rfl rfl)⟩)
    rw [sho_some hv hg0.2 hxm (hfx.symm.trans hc1), haw]; exact ⟨rfl, rfl⟩
   ·try simp only [bs] at hc1
    refine .skip (.block_normal ?_)
    refine AK.then_ (hK8 _ ?_)
    refine AK.region ?_
    refine .v (.add rfl rfl (by omega)) ?_
    refine .mv rfl (.nil ?_)
    refine AK.then_ (hK5 _ _ (x + 1) ⟨by omega, fun j hj => by rcases Nat.lt_or_eq_of_le (Nat.le_of_lt_succ hj) with h | rfl; exact hg0.2 j h; exact hfx.symm.trans (by simpa using hc1)⟩ (by omega) (slr) (fun w hw => hw))
  ·refine .exit (.then_exit (.then_exit (.block_exit ?_)))
   refine AK.then_ (hK3 _ ?_)
   refine .sr fun _ hK12 => ?_
   refine .as rfl (.as rfl (.nt hK12 (.ret ?_)))
   refine AK.ret2 rfl rfl rfl (fun w hw => ⟨_, _, ?_, rfl, Ret.of (hw.pick [] (by decide) rfl rfl)⟩)
   rw [sho_none (fun hv j hj => hg0.2 j (by have e : AccW d = TWo d := if_pos hv; have := two_len hv; rw [e] at hc0 hg0; omega))]; exact ⟨rfl, rfl⟩

end Go.Proofs.YtbibnpdnmmgacaaGreatDoor

namespace Go.Sx
open Go.RowKit
def awD : Dfa := ⟨2, 0, [true, false, false], [[1, 2], [2, 0], [2, 2]]⟩
def exLa : Ex := .mk 3 0 []
def exLb : Ex := .mk 3 1 []
def exC : Ex := .mk 5 0 [exLa, exLb]
theorem aw_min : (MinV awD).fin.length = 3 := by decide +kernel
theorem aw_match : (leafS exLa [97] 0).getLsbD 1 = true := by decide +kernel
theorem aw_val : validE exLa 6 = 0 := by decide +kernel
theorem aw_leaf : leafOp exLa := by unfold leafOp; decide
theorem aw_word : validW 6 [97] = true := by decide +kernel
theorem aw_kids {l : List Itm} (h : Itm.deep nilV [] ∈ l) (k : Nat) (hk : k < [exLa, exLb].length) : Itm.deep ([nilV, nilV].getD k undef) ([exLa, exLb].getD k default).kids ∈ l := by
  rcases k with _ | _ | k
  · exact h
  · exact h
  · exact absurd hk (by simp)
theorem aw_kid {l : List Itm} {v : Value} (h : Itm.deep v [exLa, exLb] ∈ l) (k : Nat) (hk : k < [exC].length) : Itm.deep ([v].getD k undef) ([exC].getD k default).kids ∈ l := by
  rcases k with _ | k
  · exact h
  · exact absurd hk (by simp)
end Go.Sx

namespace Go.Proofs.YtbibnpdnmmgacaaGreatDoor
open Go.Sx Go.RowKit
theorem s_letter (w : World) (x : Int) : CallS Tryz.prog 36 [.int .i64 x] w (fun r o => r = .agg #[.int .i64 3, .int .i64 x, nilV] ∧ o = []) := by
 refine spec_of Tryz.func36 rfl (leb rfl) ?_
 refine .sr fun _ hK1 => ?_
 refine AK.alloc el24 rfl rfl trivial rfl (fun bx2 => ?_)
 refine .nt hK1 ?_
 refine .sr fun _ hK2 => ?_
 refine .mv rfl ?_
 refine .v (.build (parts := [(0, .const (.int .i64 3)), (1, .tmp 3)]) (cs := #[.int .i64 3, .int .i64 x, .slice none 0 0]) rfl (by kernel_rfl)) ?_
 refine AK.storeBox 0 (us := [.int .i64 3, .int .i64 x, .slice none 0 0]) (cs' := [.int .i64 3, .int .i64 x, .slice none 0 0]) rfl sz24 rfl rfl rfl rfl oneP (leb rfl) rfl trivial ?_
 refine .nt hK2 (.ret ?_)
 refine AK.retG [.cell 2 24] rfl (.cons (.cell ag24 rfl bsp rfl rfl) (.nil)) (fun w hw => ⟨_, _, ?_, rfl, Ret.of (hw.pick [] (by decide) rfl rfl)⟩)
 exact ⟨rfl, rfl⟩

theorem s_node (w : World) (op : Int) (v : Value) (hv : IsSl v) : CallS Tryz.prog 20 [.int .i64 op, v] w (fun r o => r = .agg #[.int .i64 op, .int .i64 0, v] ∧ o = []) := by
 refine spec_of Tryz.func20 rfl (leb rfl) ?_
 refine .sr fun _ hK1 => ?_
 refine AK.alloc el24 rfl rfl trivial rfl (fun bx4 => ?_)
 refine .nt hK1 ?_
 refine .sr fun _ hK2 => ?_
 refine .mv rfl (.mv rfl ?_)
 refine .v (.build (parts := [(0, .tmp 5), (2, .tmp 6)]) (cs := #[.int .i64 op, .int .i64 0, v]) rfl (by obtain ⟨_, _, _, rfl⟩ := hv; kernel_rfl)) ?_
 refine AK.storeBox 0 (us := [.int .i64 op, .int .i64 0, v]) (cs' := [.int .i64 op, .int .i64 0, v]) rfl sz24 rfl rfl rfl rfl oneP (leb rfl) rfl trivial ?_
 refine .nt hK2 (.ret ?_)
 refine AK.retG [.cell 4 24] rfl (.cons (.cell ag24 rfl bsp rfl rfl) (.nil)) (fun w hw => ⟨_, _, ?_, rfl, Ret.of (hw.pick [] (by decide) rfl rfl)⟩)
 exact ⟨rfl, rfl⟩

set_option maxHeartbeats 2000000 in
theorem s_awake (w : World) (hT : TbA w) : CallS Tryz.prog 9 [] w (fun r o => r = .bool true ∧ o = []) := by
 refine spec_of Tryz.func9 rfl (leb rfl) ?_
 refine .sr fun _ hK1 => ?_
 refine .as rfl (.nt hK1 ?_)
 refine .sr fun _ hK2 => ?_
 refine AK.call co36 rfl (fun w hw => s_letter w 0) trivial rfl ?_
 rintro r o ⟨rfl, rfl⟩
 refine AK.call co36 rfl (fun w hw => s_letter w 1) trivial rfl ?_
 rintro r o ⟨rfl, rfl⟩
 refine AK.lit (xs := [.tmp 4, .tmp 5]) sl22 el24 rfl rfl rfl (by simp [Value.cells]) (by decide) (by decide) trivial rfl (fun lv => ?_)
 refine AK.shape 0 rfl (fun slv => ?_)
 refine AK.call co20 rfl (fun w hw => s_node w 5 lv slv) trivial rfl ?_
 rintro r o ⟨rfl, rfl⟩
 refine AK.lit (xs := [.tmp 7]) sl22 el24 rfl rfl rfl (by simp [Value.cells]) (by decide) (by decide) trivial rfl (fun lw => ?_)
 refine AK.shape 1 rfl (fun slw => ?_)
 refine AK.call co20 rfl (fun w hw => s_node w 7 lw slw) trivial rfl ?_
 rintro r o ⟨rfl, rfl⟩
 refine AK.newForest ⟨w, fun _ => False⟩ ?_
 refine AK.add' 2 (.deep nilV []) rfl (fun R => RdK.nil R) (fun l1 hs1 hm1 => ?_)
 refine AK.close' 2 0 [exLa, exLb] [nilV, nilV] (by decide) rfl rfl rfl rfl rfl (aw_kids hm1) (fun l2 hs2 hm2 _ => ?_)
 refine AK.close' 2 1 [exC] [lv] (by decide) rfl rfl rfl rfl rfl (aw_kid hm2) (fun l3 hs3 hm3 _ => ?_)
 refine AK.callN 2 rfl co11 rfl (fun w Fs hw hh hfr hal => s_build w (Fs 2) ⟨_, fun _ => False⟩ l3 (fun b hb => hb.elim) (hh.at_ 2 _ rfl) exAw lw hm3 2 (awD, 0) build_aw) trivial rfl ?_
 rintro r A o ⟨vF, vN, rs, rfl, hrl, svF, svN, rfl, rfl⟩
 refine AK.flatAt [empA, empA] ?_
 refine .mv rfl (.v (.extract rfl rfl) (.v (.extract rfl rfl) ?_))
 refine AK.alloc el32 rfl rfl trivial rfl (fun bx1 => ?_)
 refine AK.storeBox 5 (us := [.int .i64 (2 : Int), .int .i64 (0 : Int), vF, vN]) (cs' := [.int .i64 (2 : Int), .int .i64 (0 : Int), vF, vN]) rfl sz32 rfl rfl rfl rfl oneP (leb rfl) rfl trivial ?_
 refine .as rfl (.nt hK2 ?_)
 refine .sr fun _ hK3 => ?_
 refine .mv rfl (.v (.eql rfl rfl) (.mv rfl ?_))
 refine AK.knownT (g := 15) rfl (rfl) (fun hg_2_2 => ?_)
 refine AK.val _ (Yl.loadBoxG ag32 rfl bsp rfl rfl) ⟨_, rfl, gB hg_2_2⟩ rfl ?_
 refine AK.call co15 rfl (fun w hw => s_min w _ awD (RdD.own 2 hw hrl rfl rfl rfl)) ⟨_, rfl, gB hg_2_2⟩ rfl ?_
 rintro r o ⟨mF, mN, ms, rfl, hml, smF, smN, rfl⟩
 refine AK.val _ (Yl.fieldQ (FldQ.of (by kernel_rfl) : FldQ _ 32 2 2) rfl rfl) ⟨_, rfl, gB hg_2_2⟩ rfl ?_
 refine AK.val _ (Yl.lenR sl29 rfl rdp) ⟨_, rfl, gB hg_2_2⟩ rfl ?_
 refine AK.val _ (Yl.eql rfl rfl) ⟨_, rfl, gB hg_2_2⟩ rfl ?_
 refine .v (.pickT rfl (hg_2_2) rfl) (.mv rfl ?_)
 refine AK.knownT (g := 22) rfl (by rw [aw_min]; rfl) (fun hg_2_9 => ?_)
 refine AK.call co36 rfl (fun w hw => s_letter w 0) ⟨_, rfl, gB hg_2_9⟩ rfl ?_
 rintro r o ⟨rfl, rfl⟩
 refine AK.call co10 rfl (fun w hw => s_match w exLa nilV (RdK.nil _) [97] (by decide) aw_word aw_val aw_leaf (hT.at hw)) ⟨_, rfl, gB hg_2_9⟩ rfl ?_
 rintro r o ⟨rfl, rfl⟩
 refine .v (.pickT rfl (hg_2_9) rfl) (.as rfl (.nt hK3 (.ret ?_)))
 refine AK.ret1 rfl rfl (fun w hw => ⟨_, _, ?_, rfl, Ret.of (hw.pick [] (by decide) rfl rfl)⟩)
 exact ⟨congrArg Value.bool aw_match, rfl⟩

end Go.Proofs.YtbibnpdnmmgacaaGreatDoor
