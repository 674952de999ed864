import Derived.Test.YtbibnpdnmmgacaaGreatDoorHZo
import Derived.Test.YtbibnpdnmmgacaaGreatDoorHZe
import Derived.Test.YtbibnpdnmmgacaaGreatDoorHZg
import Derived.Test.YtbibnpdnmmgacaaGreatDoorHZf
import Derived.Test.YtbibnpdnmmgacaaGreatDoorHZj
import Derived.Test.YtbibnpdnmmgacaaGreatDoorHZm
import Derived.Test.YtbibnpdnmmgacaaGreatDoorHZn
set_option linter.unusedVariables false
set_option linter.unusedSimpArgs false
set_option maxRecDepth 100000
namespace Go.Sx
open Go.RowKit
/-! ### concatenation and iteration of automata -/
def shcE (fin : List Bool) (to : Int) (es : List Edg) : List Edg := (es.filter fun (e : Edg) => decide (e.2.2 < (fin.length : Int)) && fin.getD e.2.2.toNat false).map fun (e : Edg) => ((e.1, e.2.1, to) : Edg)
theorem shcE_next {fin : List Bool} {to : Int} {es : List Edg} {k : Nat} (h : k < es.length) : shcE fin to (es.take (k + 1)) = shcE fin to (es.take k) ++ if (decide ((es.getD k (0, 0, 0)).2.2 < (fin.length : Int)) && fin.getD (es.getD k (0, 0, 0)).2.2.toNat false) = true then [((es.getD k (0, 0, 0)).1, (es.getD k (0, 0, 0)).2.1, to)] else [] := by
  unfold shcE
  rw [take_snocD (0, 0, 0) es k h, List.filter_append, List.map_append]
  congr 1
  split
  · rename_i hc; rw [List.filter_cons, if_pos hc]; rfl
  · rename_i hc; rw [List.filter_cons, if_neg hc]; rfl
theorem shcE_len (fin : List Bool) (to : Int) (es : List Edg) : (shcE fin to es).length ≤ es.length := by
  unfold shcE; rw [List.length_map]; exact List.length_filter_le _ _
theorem mem_shcE {fin : List Bool} {to : Int} {es : List Edg} {e : Edg} : e ∈ shcE fin to es ↔ ∃ e' ∈ es, (e'.2.2 < (fin.length : Int) ∧ fin.getD e'.2.2.toNat false = true) ∧ e = (e'.1, e'.2.1, to) := by
  unfold shcE
  simp only [List.mem_map, List.mem_filter, Bool.and_eq_true, decide_eq_true_eq]
  constructor
  · rintro ⟨e', ⟨h1, h2⟩, rfl⟩; exact ⟨e', h1, h2, rfl⟩
  · rintro ⟨e', h1, h2, rfl⟩; exact ⟨e', ⟨h1, h2⟩, rfl⟩
theorem chr_of {c : UInt8} {x : Nat} {L : Int} (h : (x : Int) = (c.toNat : Int) - 97) (hx : (x : Int) < L) : okB L c = true ∧ ((c.toNat : Int) - 97).toNat = x := ⟨decide_eq_true (by omega), by omega⟩
section cat
variable {m1 m2 : Dfa}
def catE (m1 m2 : Dfa) : List Edg :=
  (cpe m1 0 m1.fin.length ++ cpe m2 (m1.fin.length : Int) m2.fin.length) ++ shcE m1.fin ((m1.fin.length : Int) + m2.s) (cpe m1 0 m1.fin.length ++ cpe m2 (m1.fin.length : Int) m2.fin.length)
def catN (m1 m2 : Dfa) : Nfa := ⟨m1.L, ((m1.fin.length + m2.fin.length : Nat) : Int), if m1.fin.getD m1.s.toNat false then bit m1.s ||| bit ((m1.fin.length : Int) + m2.s) else bit m1.s, orF 0 m2.fin m1.fin.length m2.fin.length, catE m1 m2⟩
theorem mem_catE (h1 : VD m1) (h2 : VD m2) {e : Edg} : e ∈ catE m1 m2 ↔ (∃ p x : Nat, p < m1.fin.length ∧ (x : Int) < m1.L ∧ e = ((p : Int), (x : Int), stepQ m1 (p : Int) x)) ∨ (∃ p x : Nat, p < m2.fin.length ∧ (x : Int) < m2.L ∧ e = ((p : Int) + m1.fin.length, (x : Int), stepQ m2 (p : Int) x + m1.fin.length)) ∨
    (∃ p x : Nat, p < m1.fin.length ∧ (x : Int) < m1.L ∧ finQ m1 (stepQ m1 (p : Int) x) = true ∧ e = ((p : Int), (x : Int), (m1.fin.length : Int) + m2.s)) := by
  unfold catE
  rw [List.mem_append, List.mem_append, mem_cpe h1 _ (Nat.le_refl _), mem_cpe h2 _ (Nat.le_refl _), mem_shcE]
  have e0 : ∀ q : Int, q + 0 = q := fun q => by omega
  simp only [List.mem_append, mem_cpe h1 _ (Nat.le_refl _), mem_cpe h2 _ (Nat.le_refl _), e0]
  constructor
  · rintro ((h | h) | ⟨e', (⟨p, x, a, b, rfl⟩ | ⟨p, x, a, b, rfl⟩), ⟨c1, c2⟩, rfl⟩)
    · exact .inl h
    · exact .inr (.inl h)
    · exact .inr (.inr ⟨p, x, a, b, c2, rfl⟩)
    · have := (stepQ_inr h2 (q := (p : Int)) ⟨by omega, by omega⟩ b).1
      dsimp only at c1; omega
  · rintro (h | h | ⟨p, x, a, b, c, rfl⟩)
    · exact .inl (.inl h)
    · exact .inl (.inr h)
    · have := stepQ_inr h1 (q := (p : Int)) ⟨by omega, by omega⟩ b
      exact .inr ⟨_, .inl ⟨p, x, a, b, rfl⟩, ⟨this.2, c⟩, rfl⟩
theorem cat_right (h1 : VD m1) (h2 : VD m2) {s r : Int} {v : List UInt8} (hp : Pth (catE m1 m2) s v r) : ∀ q : Int, 0 ≤ q ∧ q < m2.fin.length → s = q + m1.fin.length → v.all (okB m2.L) = true ∧ r = runI m2 q v + m1.fin.length := by
  induction hp with
  | nil s => intro q hq e; exact ⟨rfl, e⟩
  | @cons s q' r c l he t ih =>
    intro q hq e
    rcases (mem_catE h1 h2).1 he with ⟨p, x, a, b, e2⟩ | ⟨p, x, a, b, e2⟩ | ⟨p, x, a, b, c2, e2⟩
    · simp only [Prod.mk.injEq] at e2; omega
    · simp only [Prod.mk.injEq] at e2
      obtain ⟨e3, e4, e5⟩ := e2
      have hpq : (p : Int) = q := by omega
      rw [hpq] at e5
      obtain ⟨k1, k2⟩ := chr_of e4.symm b
      obtain ⟨g1, g2⟩ := ih (stepQ m2 q x) (stepQ_inr h2 hq b) e5
      refine ⟨by rw [List.all_cons, k1, g1]; rfl, ?_⟩
      rw [g2, runI_cons, k2]
    · simp only [Prod.mk.injEq] at e2; omega
theorem cat_left (h1 : VD m1) (h2 : VD m2) {s r : Int} {v : List UInt8} (hp : Pth (catE m1 m2) s v r) : ∀ p : Int, 0 ≤ p ∧ p < m1.fin.length → s = p → (m1.fin.length : Int) ≤ r →
    ∃ u w : List UInt8, v = u ++ w ∧ u.all (okB m1.L) = true ∧ w.all (okB m2.L) = true ∧ finQ m1 (runI m1 p u) = true ∧ r = runI m2 m2.s w + m1.fin.length := by
  induction hp with
  | nil s => intro p hp e hr; omega
  | @cons s q' r c l he t ih =>
    intro p hp e hr
    rcases (mem_catE h1 h2).1 he with ⟨p', x, a, b, e2⟩ | ⟨p', x, a, b, e2⟩ | ⟨p', x, a, b, c2, e2⟩
    · simp only [Prod.mk.injEq] at e2
      obtain ⟨e3, e4, e5⟩ := e2
      have hpp : (p' : Int) = p := by omega
      rw [hpp] at e5
      obtain ⟨k1, k2⟩ := chr_of e4.symm b
      obtain ⟨u, w, g1, g2, g3, g4, g5⟩ := ih (stepQ m1 p x) (stepQ_inr h1 hp b) e5 hr
      exact ⟨c :: u, w, by rw [g1]; rfl, by rw [List.all_cons, k1, g2]; rfl, g3, by rw [runI_cons, k2]; exact g4, g5⟩
    · simp only [Prod.mk.injEq] at e2; omega
    · simp only [Prod.mk.injEq] at e2
      obtain ⟨e3, e4, e5⟩ := e2
      have hpp : (p' : Int) = p := by omega
      rw [hpp] at c2
      obtain ⟨k1, k2⟩ := chr_of e4.symm b
      obtain ⟨g1, g2⟩ := cat_right h1 h2 t m2.s h2.s (by omega)
      exact ⟨[c], l, rfl, by rw [List.all_cons, k1]; rfl, g1, by rw [runI_cons, k2]; exact c2, g2⟩
theorem cat_pr (h1 : VD m1) (h2 : VD m2) : ∀ (v : List UInt8) (q : Int), 0 ≤ q ∧ q < m2.fin.length → v.all (okB m2.L) = true → Pth (catE m1 m2) (q + m1.fin.length) v (runI m2 q v + m1.fin.length)
  | [], q, _, _ => .nil _
  | c :: v, q, hq, hv => by
    rw [List.all_cons, Bool.and_eq_true] at hv
    have hc := okB_lt hv.1
    have hx : ((((c.toNat : Int) - 97).toNat : Nat) : Int) = (c.toNat : Int) - 97 := by omega
    refine .cons (q := stepQ m2 q ((c.toNat : Int) - 97).toNat + m1.fin.length) ((mem_catE h1 h2).2 (.inr (.inl ⟨q.toNat, ((c.toNat : Int) - 97).toNat, by omega, by omega, ?_⟩))) (cat_pr h1 h2 v _ (stepQ_inr h2 hq (by omega)) hv.2)
    rw [show ((q.toNat : Nat) : Int) = q by omega, hx]
theorem cat_pl (h1 : VD m1) (h2 : VD m2) {w : List UInt8} (hw : w.all (okB m2.L) = true) : ∀ (u : List UInt8) (p : Int), 0 ≤ p ∧ p < m1.fin.length → u.all (okB m1.L) = true → u ≠ [] → finQ m1 (runI m1 p u) = true → Pth (catE m1 m2) p (u ++ w) (runI m2 m2.s w + m1.fin.length)
  | [], p, _, _, h0, _ => absurd rfl h0
  | c :: u, p, hp, hu, _, hf => by
    rw [List.all_cons, Bool.and_eq_true] at hu
    have hc := okB_lt hu.1
    have hpe : ((p.toNat : Nat) : Int) = p := by omega
    have hx : ((((c.toNat : Int) - 97).toNat : Nat) : Int) = (c.toNat : Int) - 97 := by omega
    by_cases hn : u = []
    · subst hn
      refine .cons (q := (m1.fin.length : Int) + m2.s) ((mem_catE h1 h2).2 (.inr (.inr ⟨p.toNat, ((c.toNat : Int) - 97).toNat, by omega, by omega, ?_, ?_⟩))) ?_
      · rw [hpe]; exact hf
      · rw [hpe, hx]
      · have := cat_pr h1 h2 w m2.s h2.s hw
        rw [show (m1.fin.length : Int) + m2.s = m2.s + m1.fin.length by omega]; exact this
    · refine .cons (q := stepQ m1 p ((c.toNat : Int) - 97).toNat) ((mem_catE h1 h2).2 (.inl ⟨p.toNat, ((c.toNat : Int) - 97).toNat, by omega, by omega, ?_⟩)) (cat_pl h1 h2 hw u _ (stepQ_inr h1 hp (by omega)) hu.2 hn hf)
      rw [hpe, hx]
theorem cat_wn (h1 : VD m1) (h2 : VD m2) (hL : m1.L = m2.L) (hS : m1.fin.length + m2.fin.length ≤ 64) : WN (catN m1 m2) where
  L := h1.L
  S := by have e : (catN m1 m2).S = ((m1.fin.length + m2.fin.length : Nat) : Int) := rfl
          rw [e]; omega
  st i hi := by
    have hs1 := h1.s; have hs2 := h2.s
    show (i : Int) < ((m1.fin.length + m2.fin.length : Nat) : Int)
    have hi : (if m1.fin.getD m1.s.toNat false then bit m1.s ||| bit ((m1.fin.length : Int) + m2.s) else bit m1.s).getLsbD i = true := hi
    split at hi
    · rw [BitVec.getLsbD_or, Bool.or_eq_true, bit_get (by omega), bit_get (by omega), decide_eq_true_eq, decide_eq_true_eq] at hi; omega
    · rw [bit_get (by omega), decide_eq_true_eq] at hi; omega
  fi i hi := by
    obtain ⟨q, a, b, c⟩ := (orF_get (l := m2.fin) (off := m1.fin.length) i m2.fin.length (by omega)).1 hi
    show (i : Int) < ((m1.fin.length + m2.fin.length : Nat) : Int)
    omega
  ed e he := by
    have e1 : (catN m1 m2).S = ((m1.fin.length + m2.fin.length : Nat) : Int) := rfl
    have e2 : (catN m1 m2).L = m1.L := rfl
    have hs2 := h2.s
    rw [e1, e2]
    rcases (mem_catE h1 h2).1 he with ⟨p, x, a, b, rfl⟩ | ⟨p, x, a, b, rfl⟩ | ⟨p, x, a, b, c, rfl⟩
    · have := stepQ_inr h1 (q := (p : Int)) ⟨by omega, by omega⟩ b
      have h3 := this.1; have h4 := this.2
      dsimp only; omega
    · have := stepQ_inr h2 (q := (p : Int)) ⟨by omega, by omega⟩ b
      have h3 := this.1; have h4 := this.2
      dsimp only; omega
    · dsimp only; omega
theorem cat_acc (h1 : VD m1) (h2 : VD m2) (hL : m1.L = m2.L) (hS : m1.fin.length + m2.fin.length ≤ 64) (v : List UInt8) : AccP (catN m1 m2) v ↔ ∃ u w : List UInt8, v = u ++ w ∧ (u.all (okB m1.L) = true ∧ langD m1 u) ∧ (w.all (okB m1.L) = true ∧ langD m2 w) := by
  have hs1 := h1.s; have hs2 := h2.s
  have hst : ∀ i : Nat, (catN m1 m2).st.getLsbD i = true ↔ (i : Int) = m1.s ∨ (m1.fin.getD m1.s.toNat false = true ∧ (i : Int) = m1.fin.length + m2.s) := fun i => by
    show (if m1.fin.getD m1.s.toNat false then bit m1.s ||| bit ((m1.fin.length : Int) + m2.s) else bit m1.s).getLsbD i = true ↔ _
    split
    · rename_i hc; rw [BitVec.getLsbD_or, Bool.or_eq_true, bit_get (by omega), bit_get (by omega), decide_eq_true_eq, decide_eq_true_eq]; exact ⟨fun h => h.imp id (fun h => ⟨hc, h⟩), fun h => h.imp id (·.2)⟩
    · rename_i hc; rw [bit_get (by omega), decide_eq_true_eq]; exact ⟨.inl, fun h => h.resolve_right (fun h => hc h.1)⟩
  unfold AccP langD
  constructor
  · rintro ⟨p, q, hp, hq, a1, a2, a3⟩
    obtain ⟨q', b1, b2, b3⟩ := (orF_get (l := m2.fin) (off := m1.fin.length) q m2.fin.length (by omega)).1 a2
    have hfin : ∀ w : List UInt8, (q : Int) = runI m2 m2.s w + m1.fin.length → finQ m2 (runI m2 m2.s w) = true := fun w e => by
      unfold finQ
      have : (runI m2 m2.s w).toNat = q' := by omega
      rw [this]; exact b2
    rcases (hst p).1 a1 with h | ⟨h3, h⟩
    · obtain ⟨u, w, c1, c2, c3, c4, c5⟩ := cat_left h1 h2 a3 m1.s hs1 h (by omega)
      exact ⟨u, w, c1, ⟨c2, c4⟩, by rw [hL]; exact c3, hfin w c5⟩
    · obtain ⟨c1, c2⟩ := cat_right h1 h2 a3 m2.s hs2 (by omega)
      exact ⟨[], v, rfl, ⟨rfl, h3⟩, by rw [hL]; exact c1, hfin v c2⟩
  · rintro ⟨u, w, rfl, ⟨c1, c2⟩, c3, c4⟩
    rw [hL] at c3
    have hr := runI_inr h2 w m2.s hs2 c3
    have hr1 := hr.1; have hr2 := hr.2
    have hq : ((m1.fin.length + (runI m2 m2.s w).toNat : Nat) : Int) = runI m2 m2.s w + m1.fin.length := by omega
    have hfi : (catN m1 m2).fi.getLsbD (m1.fin.length + (runI m2 m2.s w).toNat) = true := (orF_get (l := m2.fin) (off := m1.fin.length) _ m2.fin.length (by omega)).2 ⟨(runI m2 m2.s w).toNat, by omega, c4, by omega⟩
    by_cases hu : u = []
    · subst hu
      refine ⟨m1.fin.length + m2.s.toNat, _, by omega, ?_, (hst _).2 (.inr ⟨c2, by omega⟩), hfi, ?_⟩
      · omega
      · have := cat_pr h1 h2 w m2.s hs2 c3
        rw [hq, show ((m1.fin.length + m2.s.toNat : Nat) : Int) = m2.s + m1.fin.length by omega]; exact this
    · refine ⟨m1.s.toNat, _, by omega, ?_, (hst _).2 (.inl (by omega)), hfi, ?_⟩
      · omega
      · have := cat_pl h1 h2 c3 u m1.s hs1 c1 hu c2
        rw [hq, show ((m1.s.toNat : Nat) : Int) = m1.s by omega]; exact this
theorem catE_len (h1 : VD m1) (h2 : VD m2) (hS : m1.fin.length + m2.fin.length ≤ 64) : 1 ≤ (catE m1 m2).length ∧ (catE m1 m2).length ≤ 1000 := by
  have a := cpe_len h1 0 m1.fin.length (Nat.le_refl _)
  have b := cpe_len h2 (m1.fin.length : Int) m2.fin.length (Nat.le_refl _)
  have c := shcE_len m1.fin ((m1.fin.length : Int) + m2.s) (cpe m1 0 m1.fin.length ++ cpe m2 (m1.fin.length : Int) m2.fin.length)
  have hL := h1.L; have hs := h1.s
  have hm : ((m1.s, (0 : Int), stepQ m1 m1.s 0) : Edg) ∈ catE m1 m2 := (mem_catE h1 h2).2 (.inl ⟨m1.s.toNat, 0, by omega, by omega, by rw [show ((m1.s.toNat : Nat) : Int) = m1.s by omega]; rfl⟩)
  have := List.length_pos_of_mem hm
  refine ⟨by omega, ?_⟩
  unfold catE at this ⊢
  simp only [List.length_append] at c ⊢; omega
end cat
section star
variable {m : Dfa}
def st0 (m : Dfa) : List Edg := (List.range m.L.toNat).map fun (x : Nat) => ((m.fin.length : Int), (x : Int), stepQ m m.s x)
def staE (m : Dfa) : List Edg := (cpe m 0 m.fin.length ++ st0 m) ++ shcE m.fin m.s (cpe m 0 m.fin.length ++ st0 m)
def staN (m : Dfa) : Nfa := ⟨m.L, ((m.fin.length + 1 : Nat) : Int), bit (m.fin.length : Int), orF (bit (m.fin.length : Int)) m.fin 0 m.fin.length, staE m⟩
/-- the state whose edges leave from p: the further state has those of the start -/
def orgS (m : Dfa) (p : Int) : Int := if p = m.fin.length then m.s else p
theorem mem_staE (hv : VD m) {e : Edg} : e ∈ staE m ↔ ∃ (p : Int) (x : Nat), (0 ≤ p ∧ p ≤ m.fin.length) ∧ (x : Int) < m.L ∧ (e = (p, (x : Int), stepQ m (orgS m p) x) ∨ (finQ m (stepQ m (orgS m p) x) = true ∧ e = (p, (x : Int), m.s))) := by
  have hs := hv.s
  have base : ∀ e' : Edg, e' ∈ cpe m 0 m.fin.length ++ st0 m ↔ ∃ (p : Int) (x : Nat), (0 ≤ p ∧ p ≤ m.fin.length) ∧ (x : Int) < m.L ∧ e' = (p, (x : Int), stepQ m (orgS m p) x) := fun e' => by
    have e0 : ∀ q : Int, q + 0 = q := fun q => by omega
    rw [List.mem_append, mem_cpe hv _ (Nat.le_refl _)]
    simp only [st0, List.mem_map, List.mem_range, e0]
    constructor
    · rintro (⟨p, x, a, b, rfl⟩ | ⟨x, a, rfl⟩)
      · exact ⟨p, x, by omega, b, by unfold orgS; rw [if_neg (by omega)]⟩
      · exact ⟨m.fin.length, x, by omega, by omega, by unfold orgS; rw [if_pos rfl]⟩
    · rintro ⟨p, x, a, b, rfl⟩
      by_cases hp : p = m.fin.length
      · right; exact ⟨x, by omega, by unfold orgS; rw [if_pos hp, hp]⟩
      · left
        refine ⟨p.toNat, x, by omega, b, ?_⟩
        unfold orgS; rw [if_neg hp, show ((p.toNat : Nat) : Int) = p by omega]
  have horg : ∀ p : Int, 0 ≤ p ∧ p ≤ m.fin.length → InR m (orgS m p) := fun p hp => by
    unfold orgS; split
    · exact hs
    · exact ⟨hp.1, by omega⟩
  unfold staE
  rw [List.mem_append, base, mem_shcE]
  constructor
  · rintro (⟨p, x, a, b, rfl⟩ | ⟨e', h, ⟨c1, c2⟩, rfl⟩)
    · exact ⟨p, x, a, b, .inl rfl⟩
    · obtain ⟨p, x, a, b, rfl⟩ := (base e').1 h
      exact ⟨p, x, a, b, .inr ⟨c2, rfl⟩⟩
  · rintro ⟨p, x, a, b, rfl | ⟨c, rfl⟩⟩
    · exact .inl ⟨p, x, a, b, rfl⟩
    · exact .inr ⟨_, (base _).2 ⟨p, x, a, b, rfl⟩, ⟨(stepQ_inr hv (horg p a) b).2, c⟩, rfl⟩
theorem orgS_in (hv : VD m) {p : Int} (hp : 0 ≤ p ∧ p ≤ m.fin.length) : InR m (orgS m p) := by
  unfold orgS; split
  · exact hv.s
  · exact ⟨hp.1, by omega⟩
theorem orgS_of {p : Int} (hp : p < m.fin.length) : orgS m p = p := if_neg (by omega)
/-- a letter's word of the language -/
def okL (m : Dfa) (u : List UInt8) : Prop := u.all (okB m.L) = true ∧ langD m u
theorem sta_to (hv : VD m) {s r : Int} {v : List UInt8} (hp : Pth (staE m) s v r) : (0 ≤ s ∧ s ≤ m.fin.length) → (r < m.fin.length ∧ finQ m r = true) → v ≠ [] ∨ s = r →
    (v = [] ∧ s = r) ∨ ∃ u w : List UInt8, v = u ++ w ∧ u.all (okB m.L) = true ∧ finQ m (runI m (orgS m s) u) = true ∧ StarL (okL m) w := by
  induction hp with
  | nil s => intro _ _ _; exact .inl ⟨rfl, rfl⟩
  | @cons s q' r c l he t ih =>
    intro hs hr _
    right
    obtain ⟨p, x, a, b, e2⟩ := (mem_staE hv).1 he
    have hsp : s = p ∧ (c.toNat : Int) - 97 = x := by
      rcases e2 with e2 | ⟨_, e2⟩ <;> (simp only [Prod.mk.injEq] at e2; exact ⟨e2.1, e2.2.1⟩)
    obtain ⟨rfl, e4⟩ := hsp
    obtain ⟨k1, k2⟩ := chr_of e4.symm b
    have hst := stepQ_inr hv (orgS_in hv a) b
    have hto : (0 ≤ q' ∧ q' < m.fin.length) ∧ (q' = stepQ m (orgS m s) x ∨ (finQ m (stepQ m (orgS m s) x) = true ∧ q' = m.s)) := by
      rcases e2 with e2 | ⟨c2, e2⟩
      · simp only [Prod.mk.injEq] at e2; exact ⟨by rw [e2.2.2]; exact hst, .inl e2.2.2⟩
      · simp only [Prod.mk.injEq] at e2; exact ⟨by rw [e2.2.2]; exact hv.s, .inr ⟨c2, e2.2.2⟩⟩
    obtain ⟨hq, hto⟩ := hto
    by_cases hl : l = []
    · subst hl
      cases t
      refine ⟨[c], [], rfl, by rw [List.all_cons, k1]; rfl, ?_, .nil⟩
      rw [runI_cons, k2]
      rcases hto with e5 | ⟨c2, _⟩
      · show finQ m (stepQ m (orgS m s) x) = true
        rw [← e5]; exact hr.2
      · exact c2
    · rcases ih (by omega) hr (.inl hl) with ⟨h, _⟩ | ⟨u, w, g1, g2, g3, g4⟩
      · exact absurd h hl
      · rw [orgS_of hq.2] at g3
        rcases hto with e5 | ⟨c2, e5⟩
        · refine ⟨c :: u, w, by rw [g1]; rfl, by rw [List.all_cons, k1, g2]; rfl, ?_, g4⟩
          rw [runI_cons, k2, ← e5]; exact g3
        · refine ⟨[c], l, rfl, by rw [List.all_cons, k1]; rfl, by rw [runI_cons, k2]; exact c2, ?_⟩
          rw [g1]; rw [e5] at g3
          exact .cons ⟨g2, g3⟩ g4
theorem sta_run (hv : VD m) {w : List UInt8} {r : Int} (hw : w = [] ∨ Pth (staE m) m.s w r) : ∀ (u : List UInt8) (p : Int), (0 ≤ p ∧ p ≤ m.fin.length) → u.all (okB m.L) = true → u ≠ [] → finQ m (runI m (orgS m p) u) = true → (w = [] → r = runI m (orgS m p) u) → Pth (staE m) p (u ++ w) r
  | [], p, _, _, h0, _, _ => absurd rfl h0
  | c :: u, p, hp, hu, _, hf, hr => by
    rw [List.all_cons, Bool.and_eq_true] at hu
    have hc := okB_lt hu.1
    have hx : ((((c.toNat : Int) - 97).toNat : Nat) : Int) = (c.toNat : Int) - 97 := by omega
    have hst := stepQ_inr hv (orgS_in hv hp) (x := ((c.toNat : Int) - 97).toNat) (by omega)
    by_cases hn : u = []
    · subst hn
      rcases hw with hw | hw
      · subst hw
        rw [hr rfl]
        refine .cons (q := stepQ m (orgS m p) ((c.toNat : Int) - 97).toNat) ((mem_staE hv).2 ⟨p, ((c.toNat : Int) - 97).toNat, hp, by omega, .inl (by rw [hx])⟩) (.nil _)
      · refine .cons (q := m.s) ((mem_staE hv).2 ⟨p, ((c.toNat : Int) - 97).toNat, hp, by omega, .inr ⟨hf, by rw [hx]⟩⟩) hw
    · refine .cons (q := stepQ m (orgS m p) ((c.toNat : Int) - 97).toNat) ((mem_staE hv).2 ⟨p, ((c.toNat : Int) - 97).toNat, hp, by omega, .inl (by rw [hx])⟩) (sta_run hv hw u _ ⟨hst.1, by have := hst.2; omega⟩ hu.2 hn ?_ ?_)
      · rw [orgS_of hst.2]; exact hf
      · intro h; rw [orgS_of hst.2]; exact hr h
theorem star_ne {L : List UInt8 → Prop} {l : List UInt8} (h : StarL L l) : l = [] ∨ ∃ u w : List UInt8, u ≠ [] ∧ L u ∧ StarL L w ∧ l = u ++ w := by
  induction h with
  | nil => exact .inl rfl
  | @cons u v h t ih =>
    by_cases hu : u = []
    · subst hu; exact ih
    · exact .inr ⟨u, v, hu, h, t, rfl⟩
theorem sta_from (hv : VD m) (p : Int) (hp : (0 ≤ p ∧ p ≤ m.fin.length)) (horg : orgS m p = m.s) : ∀ (n : Nat) (l : List UInt8), l.length ≤ n → StarL (okL m) l → l ≠ [] → ∃ r : Int, (0 ≤ r ∧ r < m.fin.length) ∧ finQ m r = true ∧ Pth (staE m) p l r ∧ Pth (staE m) m.s l r
  | 0, l, hl, _, h0 => absurd (List.eq_nil_of_length_eq_zero (by omega)) h0
  | n + 1, l, hl, h, h0 => by
    have hs := hv.s
    have hos : orgS m m.s = m.s := orgS_of hs.2
    rcases star_ne h with h | ⟨u, w, a1, a2, a3, rfl⟩
    · exact absurd h h0
    · have hul := List.length_pos_iff.2 a1
      by_cases hw : w = []
      · subst hw
        have hr := runI_inr hv u m.s hs a2.1
        refine ⟨runI m m.s u, hr, a2.2, ?_, ?_⟩
        · exact sta_run hv (.inl rfl) u p hp a2.1 a1 (by rw [horg]; exact a2.2) (fun _ => by rw [horg])
        · exact sta_run hv (.inl rfl) u m.s ⟨hs.1, by omega⟩ a2.1 a1 (by rw [hos]; exact a2.2) (fun _ => by rw [hos])
      · obtain ⟨r, b1, b2, b3, b4⟩ := sta_from hv p hp horg n w (by simp at hl; omega) a3 hw
        refine ⟨r, b1, b2, ?_, ?_⟩
        · exact sta_run hv (.inr b4) u p hp a2.1 a1 (by rw [horg]; exact a2.2) (fun h => absurd h hw)
        · exact sta_run hv (.inr b4) u m.s ⟨hs.1, by omega⟩ a2.1 a1 (by rw [hos]; exact a2.2) (fun h => absurd h hw)
theorem sta_fi (hv : VD m) (hS : m.fin.length + 1 ≤ 64) (i : Nat) : (staN m).fi.getLsbD i = true ↔ i = m.fin.length ∨ (i < m.fin.length ∧ m.fin.getD i false = true) := by
  show (orF (bit (m.fin.length : Int)) m.fin 0 m.fin.length).getLsbD i = true ↔ _
  have key : ∀ k, k ≤ m.fin.length → ((orF (bit (m.fin.length : Int)) m.fin 0 k).getLsbD i = true ↔ i = m.fin.length ∨ (i < k ∧ m.fin.getD i false = true)) := by
    intro k
    induction k with
    | zero =>
      intro _
      show (bit (m.fin.length : Int)).getLsbD i = true ↔ _
      rw [bit_get (by omega), decide_eq_true_eq]
      constructor
      · intro h; exact .inl (by omega)
      · rintro (h | ⟨h, _⟩)
        · omega
        · omega
    | succ k ih =>
      intro hk
      rw [orF_succ]
      split
      · rename_i hc
        rw [BitVec.getLsbD_or, Bool.or_eq_true, ih (by omega), bit_get (by omega), decide_eq_true_eq]
        constructor
        · rintro ((h | ⟨h, h2⟩) | h)
          · exact .inl h
          · exact .inr ⟨by omega, h2⟩
          · have : i = k := by omega
            subst this; exact .inr ⟨by omega, hc⟩
        · rintro (h | ⟨h, h2⟩)
          · exact .inl (.inl h)
          · by_cases e : i = k
            · right; omega
            · exact .inl (.inr ⟨by omega, h2⟩)
      · rename_i hc
        rw [ih (by omega)]
        constructor
        · rintro (h | ⟨h, h2⟩)
          · exact .inl h
          · exact .inr ⟨by omega, h2⟩
        · rintro (h | ⟨h, h2⟩)
          · exact .inl h
          · refine .inr ⟨?_, h2⟩
            by_cases e : i = k
            · subst e; exact absurd h2 hc
            · omega
  exact key _ (Nat.le_refl _)
theorem sta_wn (hv : VD m) (hS : m.fin.length + 1 ≤ 64) : WN (staN m) where
  L := hv.L
  S := by have e : (staN m).S = ((m.fin.length + 1 : Nat) : Int) := rfl
          rw [e]; omega
  st i hi := by
    have hi : (bit (m.fin.length : Int)).getLsbD i = true := hi
    rw [bit_get (by omega), decide_eq_true_eq] at hi
    show (i : Int) < ((m.fin.length + 1 : Nat) : Int); omega
  fi i hi := by
    have := (sta_fi hv hS i).1 hi
    show (i : Int) < ((m.fin.length + 1 : Nat) : Int); omega
  ed e he := by
    have e1 : (staN m).S = ((m.fin.length + 1 : Nat) : Int) := rfl
    have e2 : (staN m).L = m.L := rfl
    have hs := hv.s
    rw [e1, e2]
    obtain ⟨p, x, a, b, h⟩ := (mem_staE hv).1 he
    have := stepQ_inr hv (orgS_in hv a) b
    have h3 := this.1; have h4 := this.2
    rcases h with rfl | ⟨_, rfl⟩
    · dsimp only; omega
    · dsimp only; omega
theorem sta_acc (hv : VD m) (hS : m.fin.length + 1 ≤ 64) (v : List UInt8) : AccP (staN m) v ↔ StarL (okL m) v := by
  have hs := hv.s
  have hst : ∀ i : Nat, (staN m).st.getLsbD i = true ↔ (i : Int) = m.fin.length := fun i => by
    show (bit (m.fin.length : Int)).getLsbD i = true ↔ _
    rw [bit_get (by omega), decide_eq_true_eq]
  have hon : orgS m (m.fin.length : Int) = m.s := if_pos rfl
  unfold AccP
  constructor
  · rintro ⟨p, q, hp, hq, a1, a2, a3⟩
    rw [hst] at a1
    rw [a1] at a3
    by_cases hv0 : v = []
    · subst hv0; exact .nil
    · -- no edge leads to the further state
      have hend : ∀ {s r : Int} {l : List UInt8}, Pth (staE m) s l r → l ≠ [] → r < m.fin.length := by
        intro s r l h
        induction h with
        | nil s => intro h; exact absurd rfl h
        | @cons s q' r c l he t ih =>
          intro _
          by_cases hl : l = []
          · subst hl
            cases t
            obtain ⟨p, x, a, b, h⟩ := (mem_staE hv).1 he
            have := (stepQ_inr hv (orgS_in hv a) b).2
            rcases h with e | ⟨_, e⟩ <;> (simp only [Prod.mk.injEq] at e; omega)
          · exact ih hl
      have hr := hend a3 hv0
      have hf := ((sta_fi hv hS q).1 a2).resolve_left (by omega)
      rcases sta_to hv a3 ⟨by omega, by omega⟩ ⟨hr, by unfold finQ; rw [Int.toNat_natCast]; exact hf.2⟩ (.inl hv0) with ⟨h, _⟩ | ⟨u, w, b1, b2, b3, b4⟩
      · exact absurd h hv0
      · rw [hon] at b3
        rw [b1]; exact .cons ⟨b2, b3⟩ b4
  · intro h
    by_cases hv0 : v = []
    · subst hv0
      exact ⟨m.fin.length, m.fin.length, by omega, by omega, (hst _).2 rfl, (sta_fi hv hS _).2 (.inl rfl), .nil _⟩
    · obtain ⟨r, b1, b2, b3, _⟩ := sta_from hv (m.fin.length : Int) ⟨by omega, by omega⟩ hon v.length v (Nat.le_refl _) h hv0
      refine ⟨m.fin.length, r.toNat, by omega, by omega, (hst _).2 rfl, (sta_fi hv hS _).2 (.inr ⟨by omega, b2⟩), ?_⟩
      rw [show ((r.toNat : Nat) : Int) = r by omega]; exact b3
theorem staE_len (hv : VD m) (hS : m.fin.length + 1 ≤ 64) : 1 ≤ (staE m).length ∧ (staE m).length ≤ 1000 := by
  have a := cpe_len hv 0 m.fin.length (Nat.le_refl _)
  have c := shcE_len m.fin m.s (cpe m 0 m.fin.length ++ st0 m)
  have hL := hv.L; have hs := hv.s
  have d : (st0 m).length = m.L.toNat := by simp [st0]
  have hm : ((m.s, (0 : Int), stepQ m m.s 0) : Edg) ∈ staE m := (mem_staE hv).2 ⟨m.s, 0, by omega, by omega, .inl (by rw [orgS_of hs.2]; rfl)⟩
  have := List.length_pos_of_mem hm
  refine ⟨by omega, ?_⟩
  unfold staE at this ⊢
  simp only [List.length_append] at c ⊢; omega
end star
end Go.Sx

namespace Go.Proofs.YtbibnpdnmmgacaaGreatDoor
open Go.Sx Go.RowKit
theorem edc_one : ∀ es : List Edg, one' (edc es)
  | [] => one'_nil
  | e :: es => fun u h => (List.mem_append.1 h).elim (ecs_one e u) (edc_one es u)
theorem s_cloneE (w : World) (v : Value) (es : List Edg) (h : Rd (fun b => ¬ (fun _ : Nat => False) b) w v 3 es.length (edc es)) (hx : es.length ≤ 100000) : CallS Tryz.prog 116 [v] w (fun r o => IsSl r ∧ o = [row r 98 3 es.length (edc es)]) := by
 have hh := h
 have hm := hh.le
 obtain ⟨oa, cp, rfl, h1, h2, h3, h4⟩ := h
 refine spec_of Tryz.func116 rfl (leb rfl) ?_
 refine .sr fun _ hK1 => ?_
 refine .as rfl (.nt hK1 ?_)
 refine .seq fun _ hK2 => ?_
 refine .sr fun _ hK3 => ?_
 refine .mv rfl (.v (.eqlSl sl43.1 rfl) (.nt hK3 ?_))
 refine AK.cond rfl (fun hc0 => ?_) (fun hc0 => ?_)
 ·try simp only [bs] at hc0
  refine .sr fun _ hK4 => ?_
  refine .as rfl (.nt hK4 (.ret (.then_ret ?_)))
  refine AK.ghost 98 3 ?_
  refine AK.ret1 rfl rfl (fun w hw => ⟨_, _, ?_, rfl, Ret.of (hw.pick [0] (by decide) rfl rfl)⟩)
  have e : es = [] := by
   cases oa with
   | some a => cases hc0
   | none =>
    cases es with
    | nil => rfl
    | cons x l => have := h3 (by simp) (by omega); cases this
  subst e
  exact ⟨nilSl, rfl⟩
 ·try simp only [bs] at hc0
  refine .skip ?_
  refine AK.then_ (hK2 _ ?_)
  refine .sr fun _ hK5 => ?_
  refine AK.lit (xs := []) sl43 el98 rfl rfl rfl (by intro a ha; cases ha) (by decide) (by decide) trivial rfl (fun lv => ?_)
  refine .mv rfl ?_
  refine AK.appendS 0 rfl sl43 el98 rfl (by decide) rfl rfl rfl (by first | exact rdp | exact (.arg hh)) (edc_one es) (by omega) (by omega) trivial rfl (fun av => ?_)
  refine AK.shape 0 rfl (fun sv => ?_)
  refine .as rfl (.nt hK5 (.ret ?_))
  refine AK.ret1 rfl rfl (fun w hw => ⟨_, _, ?_, rfl, Ret.of (hw.pick [0] (by decide) rfl rfl)⟩)
  refine ⟨sv, ?_⟩
  simp

set_option maxHeartbeats 1000000 in
theorem a_shortcut (w : World) (F : Nat → Prop) (nb : Nat) (n : Nfa) (vF : Value) (fin : List Bool) (to : Int) (hF : RdL F Value.bool w vF fin) (hb : n.es.length ≤ 100000) (hed : ∀ e ∈ n.es, 0 ≤ e.2.2) (hA : (autX 158 98 nb (n)).holds w F) : CallM Tryz.prog 65 [.pointer (some ⟨nb, 0, none⟩), vF, .int .i64 to] w F (fun r A o => A = autX 158 98 nb (addEs n (shcE fin to n.es)) ∧ o = []) := by
 have hmf := hF.le
 unfold RdL at hF
 refine specM_of Tryz.func65 rfl (leb rfl) hA ?_
 refine AK.openX fun v => ?_
 refine .sr fun _ hK1 => ?_
 refine .mv rfl (.v (.nilCheck rfl) (.v (.fieldAddr fd158_0 rfl) (.v (.fieldAddr fd45_4 rfl) (.v (.loadBox on43 rfl bsp rfl) ?_))))
 refine AK.call co116 rfl (fun w hw => s_cloneE w v n.es ((RdS.own (C := _) 1 rfl w hw).mono fun b _ _ => ⟨id, rfl⟩) hb) trivial rfl ?_
 rintro r o ⟨sr, rfl⟩
 refine AK.closeX (n := n) ?_
 refine .v (.lenR sl43 rfl (by first | exact rdp | exact (RdS.arg hF))) ?_
 refine .mv rfl (.nt hK1 (.block ?_))
 refine AK.loopK (X := Nat) [(0, _), (1, _), (2, _), (13, _), (14, _)] (fun k => [(15, .int .i64 (k : Int))]) (fun k => [autX 158 98 nb (addEs n (shcE fin to (n.es.take k))), row r 98 3 n.es.length (edc n.es)]) (fun k => k ≤ n.es.length) (fun k => n.es.length - k) (0) slr ?_ ?_ ?_ ?_
 ·omega
 ·exact slr
 ·exact fun w hw => by rw [show shcE fin to (n.es.take 0) = [] from rfl, addEs_nil]; exact hw
 ·intro k hg0 _ hK2
  refine .sr fun _ hK3 => ?_
  refine .v (.lss rfl rfl) (.nt hK3 ?_)
  refine .seq fun _ hK4 => ?_
  refine AK.condD rfl (fun hc0 => ?_) (fun hc0 => ?_)
  ·have hkl : k < n.es.length := by omega
   have hlen : (addEs n (shcE fin to (n.es.take k))).es.length ≤ 1000000000 := (by have := shcE_len fin to (n.es.take k); have := List.length_take_le k n.es; show (n.es ++ _).length ≤ _; rw [List.length_append]; omega)
   have he0 := hed (n.es.getD k (0, 0, 0)) (by rw [List.getD_eq_getElem?_getD, List.getElem?_eq_getElem hkl]; exact List.getElem_mem hkl)
   refine .skip ?_
   refine AK.then_ (hK4 _ ?_)
   refine .seq fun _ hK5 => ?_
   refine .block ?_
   refine .sr fun _ hK6 => ?_
   first | refine .v (.iN sl43 rfl rfl (hr := (by first | exact rdp | exact (RdS.arg hF)))) ?_ | refine .v (.iK sl43 rfl rfl (hr := (by first | exact rdp | exact (RdS.arg hF)))) ?_
   refine .v (.loadEd ag98 rfl rdp (by omega)) ?_
   refine AK.alloc el98 rfl rfl trivial rfl (fun bx7 => ?_)
   refine AK.storeBox 2 (us := ecs (n.es.getD k (0, 0, 0))) (cs' := ecs (n.es.getD k (0, 0, 0))) rfl sz98 rfl rfl rfl rfl (ecs_one _) (leb rfl) rfl trivial ?_
   refine .nt hK6 ?_
   refine .sr fun _ hK7 => ?_
   refine .v (.fieldAddr fd98_2 rfl) (.v (.loadBox on3 rfl bsp rfl) (.mv rfl ?_))
   refine .v (.lenR sl29 rfl (by first | exact rdp | exact (RdS.arg hF))) ?_
   refine .v (.lss rfl rfl) (.mv rfl ?_)
   refine AK.splitB (g := 24) rfl (fun hg_3_5 => ?_) (fun hg_3_5 => ?_)
   ·have hg_3_5' := hg_3_5
    try simp only [bs] at hg_3_5'
    refine AK.val _ (Yl.move rfl) ⟨_, rfl, gB hg_3_5⟩ rfl ?_
    refine AK.val _ (Yl.fieldAddr fd98_2 rfl) ⟨_, rfl, gB hg_3_5⟩ rfl ?_
    refine AK.val _ (Yl.loadBox on3 rfl bsp rfl) ⟨_, rfl, gB hg_3_5⟩ rfl ?_
    first | refine AK.val _ (.iN sl29 rfl rfl (hr := (by first | exact rdp | exact (RdS.arg hF)))) ⟨_, rfl, gB hg_3_5⟩ rfl ?_ | refine AK.val _ (.iK sl29 rfl rfl (hr := (by first | exact rdp | exact (RdS.arg hF)))) ⟨_, rfl, gB hg_3_5⟩ rfl ?_
    refine AK.val _ (Yl.loadB on4 rfl (by first | exact rdp | exact (RdS.arg hF)) (by omega)) ⟨_, rfl, gB hg_3_5⟩ rfl ?_
    refine .v (.pickT rfl (hg_3_5) rfl) (.nt hK7 ?_)
    refine AK.cond rfl (fun hc1 => ?_) (fun hc1 => ?_)
    ·try simp only [bs] at hc1
     refine AK.region ?_
     refine .mv rfl (.v (.fieldAddr fd98_0 rfl) (.v (.loadBox on3 rfl bsp rfl) (.v (.fieldAddr fd98_1 rfl) (.v (.loadBox on3 rfl bsp rfl) (.mv rfl ?_)))))
     refine AK.callM 0 rfl co70 rfl (fun w F hw hA => a_edge w F nb _ _ _ _ hlen hA) trivial rfl ?_
     rintro r A o ⟨rfl, rfl⟩
     refine .nil (.block_normal ?_)
     refine AK.then_ (hK5 _ ?_)
     refine AK.region ?_
     refine .v (.add rfl rfl (by omega)) ?_
     refine .mv rfl (.nil ?_)
     first | refine AK.then_ (hK2 _ _ (k + 1) (by omega) (by omega) (slr) (fun w hw => by rw [shcE_next (by omega), if_pos (by rw [hg_3_5, hc1]; rfl), ← addE_addEs]; exact hw.pick [0, 1] (by decide) rfl rfl)) | refine AK.then_ (hK2 _ _ (k + 1) (by omega) (by omega) (slr) (fun w hw => by rw [shcE_next (by omega), if_neg (by rw [hg_3_5, hc1]; decide), List.append_nil]; exact hw.pick [0, 1] (by decide) rfl rfl)) | refine AK.then_ (hK2 _ _ (k + 1) (by omega) (by omega) (slr) (fun w hw => by rw [shcE_next (by omega), if_neg (by rw [hg_3_5]; simp), List.append_nil]; exact hw.pick [0, 1] (by decide) rfl rfl))
    ·try simp only [bs] at hc1
     refine .skip (.block_normal ?_)
     refine AK.then_ (hK5 _ ?_)
     refine AK.region ?_
     refine .v (.add rfl rfl (by omega)) ?_
     refine .mv rfl (.nil ?_)
     first | refine AK.then_ (hK2 _ _ (k + 1) (by omega) (by omega) (slr) (fun w hw => by rw [shcE_next (by omega), if_pos (by rw [hg_3_5, hc1]; rfl), ← addE_addEs]; exact hw.pick [0, 1] (by decide) rfl rfl)) | refine AK.then_ (hK2 _ _ (k + 1) (by omega) (by omega) (slr) (fun w hw => by rw [shcE_next (by omega), if_neg (by rw [hg_3_5, hc1]; decide), List.append_nil]; exact hw.pick [0, 1] (by decide) rfl rfl)) | refine AK.then_ (hK2 _ _ (k + 1) (by omega) (by omega) (slr) (fun w hw => by rw [shcE_next (by omega), if_neg (by rw [hg_3_5]; simp), List.append_nil]; exact hw.pick [0, 1] (by decide) rfl rfl))
   ·have hg_3_5' := hg_3_5
    try simp only [bs] at hg_3_5'
    refine AK.pass rfl rfl (hg_3_5) rfl ?_
    refine AK.pass rfl rfl (hg_3_5) rfl ?_
    refine AK.pass rfl rfl (hg_3_5) rfl ?_
    refine AK.pass rfl rfl (hg_3_5) rfl ?_
    refine AK.pass rfl rfl (hg_3_5) rfl ?_
    refine .v (.pickF rfl (hg_3_5) rfl) (.nt hK7 ?_)
    refine AK.cond_f rfl (rfl) ?_
    refine .skip (.block_normal ?_)
    refine AK.then_ (hK5 _ ?_)
    refine AK.region ?_
    refine .v (.add rfl rfl (by omega)) ?_
    refine .mv rfl (.nil ?_)
    first | refine AK.then_ (hK2 _ _ (k + 1) (by omega) (by omega) (slr) (fun w hw => by rw [shcE_next (by omega), if_pos (by rw [hg_3_5, hc1]; rfl), ← addE_addEs]; exact hw.pick [0, 1] (by decide) rfl rfl)) | refine AK.then_ (hK2 _ _ (k + 1) (by omega) (by omega) (slr) (fun w hw => by rw [shcE_next (by omega), if_neg (by rw [hg_3_5, hc1]; decide), List.append_nil]; exact hw.pick [0, 1] (by decide) rfl rfl)) | refine AK.then_ (hK2 _ _ (k + 1) (by omega) (by omega) (slr) (fun w hw => by rw [shcE_next (by omega), if_neg (by rw [hg_3_5]; simp), List.append_nil]; exact hw.pick [0, 1] (by decide) rfl rfl))
  ·refine .exit (.then_exit (.then_exit (.block_exit ?_)))
   refine AK.endG [] rfl (.nil) (fun w hw => ⟨_, _, _, ?_, rfl, Ret.of (hw.pick [0] (by decide) rfl rfl)⟩)
   have e : n.es.take k = n.es := List.take_of_length_le (by omega)
   rw [e]
   exact ⟨rfl, rfl⟩

theorem RdLL.offOwn {α : Type} {f : α → Value} {on : List Asn} {w : World} {Fs : Nat → Nat → Prop} {i : Nat} {v : Value} {E E' : TypeId} {rs : List Value} {xss : List (List α)} (j j2 : Nat) (hh : HeapAt on Fs w) (hl : rs.length = xss.length) (hj : on[j]? = some (row v E 1 xss.length rs)) (hj2 : on[j2]? = some (bigA (matG f E' rs xss))) (h1 : i ≠ j) (h2 : i ≠ j2) : RdLL (Fs i) f w v xss :=
  ⟨rs, hl, (row_rd (hh.at_ j _ hj)).mono fun b hb _ => ⟨fun hF => h1 (hh.apart i j b hF hb), rfl⟩, fun k hk => by
    obtain ⟨Gs, gh, hu⟩ := hh.at_ j2 _ hj2
    exact (row_rd (gh.at_ k _ (matG_get hl hk))).mono fun b hb _ => ⟨fun hF => h2 (hh.apart i j2 b hF ((hu b).2 ⟨k, hb⟩)), rfl⟩⟩
theorem RdD.offOwn {on : List Asn} {w : World} {Fs : Nat → Nat → Prop} {EB EI ER : TypeId} {vF vN : Value} {rs : List Value} {d : Dfa} (i j : Nat) (hh : HeapAt on Fs w) (hl : rs.length = d.nx.length) (h1 : on[j]? = some (row vF EB 1 d.fin.length (d.fin.map Value.bool))) (h2 : on[j + 1]? = some (row vN ER 1 d.nx.length rs)) (h3 : on[j + 2]? = some (bigA (matG (Value.int .i64) EI rs d.nx))) (hne : i < j ∨ j + 2 < i) :
    RdD (Fs i) w (.agg #[.int .i64 d.L, .int .i64 d.s, vF, vN]) d := ⟨vF, vN, rfl, RdL.offOwn j hh h1 (by omega), RdLL.offOwn (j + 1) (j + 2) hh hl h2 h3 (by omega) (by omega)⟩
end Go.Proofs.YtbibnpdnmmgacaaGreatDoor

namespace Go.Sx
open Go.RowKit
/-! ### what Concat and Star answer -/
theorem LngOk.congr {L : Int} {P Q : List UInt8 → Prop} {d : Dfa} {e : Int} (h : LngOk L P d e) (hpq : ∀ l : List UInt8, l.all (okB L) = true → (P l ↔ Q l)) : LngOk L Q d e := by
  rcases h with h | ⟨h1, h2, h3, h4, h5⟩
  · exact .inl h
  · exact .inr ⟨h1, h2, h3, h4, fun l hl => (h5 l hl).trans (hpq l hl)⟩
theorem okL_min {d : Dfa} (hv : VD d) : okL (minD d) = okL d := funext fun u => propext (by
  unfold okL langD
  constructor
  · rintro ⟨h1, h2⟩
    exact ⟨h1, by rw [min_lng hv u h1] at h2; exact h2⟩
  · rintro ⟨h1, h2⟩
    exact ⟨h1, by rw [min_lng hv u h1]; exact h2⟩)
theorem lng_cat {a b : Dfa} (ha : VD a) (hb : VD b) (hL : a.L = b.L) (hS : (minD a).fin.length + (minD b).fin.length ≤ 64) {d : Dfa} {e : Int} (h : LngOk (catN (minD a) (minD b)).L (AccP (catN (minD a) (minD b))) d e) :
    LngOk a.L (fun l => ∃ u v : List UInt8, l = u ++ v ∧ okL a u ∧ okL b v) d e :=
  LngOk.congr h fun l hl => by
    rw [cat_acc (min_vd ha) (min_vd hb) hL hS, ← okL_min ha, ← okL_min hb]
    have e1 : (minD b).L = (minD a).L := hL.symm
    unfold okL
    rw [e1]
theorem lng_sta {a : Dfa} (ha : VD a) (hS : (minD a).fin.length + 1 ≤ 64) {d : Dfa} {e : Int} (h : LngOk (staN (minD a)).L (AccP (staN (minD a))) d e) : LngOk a.L (fun l => StarL (okL a) l) d e :=
  LngOk.congr h fun l hl => by rw [sta_acc (min_vd ha) hS, okL_min ha]
end Go.Sx

namespace Go.Proofs.YtbibnpdnmmgacaaGreatDoor
open Go.Sx Go.RowKit
theorem sta_pos {d : Dfa} {n : Nfa} (hv : VD d) (hn : n.es = []) {f : Int} : ∀ e ∈ (addEs (addEs n (cpe d ((0 : Nat) : Int) d.fin.length)) ((List.range d.L.toNat).map fun (x : Nat) => (f, (x : Int), stepQ d d.s x))).es, 0 ≤ e.2.2 := by
  intro e he
  have he : e ∈ (n.es ++ cpe d ((0 : Nat) : Int) d.fin.length) ++ ((List.range d.L.toNat).map fun (x : Nat) => (f, (x : Int), stepQ d d.s x)) := he
  have hL := hv.L
  rw [hn, List.nil_append, List.mem_append, mem_cpe hv _ (Nat.le_refl _), List.mem_map] at he
  rcases he with ⟨p, x, h1, h2, rfl⟩ | ⟨x, h1, rfl⟩
  · have := (stepQ_inr hv (q := (p : Int)) ⟨by omega, by omega⟩ h2).1
    dsimp only; omega
  · have h1 := List.mem_range.1 h1
    exact (stepQ_inr hv hv.s (x := x) (by omega)).1
theorem cat_pos {a b : Dfa} {n : Nfa} (ha : VD a) (hb : VD b) (hn : n.es = []) : ∀ e ∈ (addEs (addEs n (cpe a ((0 : Nat) : Int) a.fin.length)) (cpe b ((a.fin.length : Nat) : Int) b.fin.length)).es, 0 ≤ e.2.2 := by
  intro e he
  have he : e ∈ (n.es ++ cpe a ((0 : Nat) : Int) a.fin.length) ++ cpe b ((a.fin.length : Nat) : Int) b.fin.length := he
  rw [hn, List.nil_append, List.mem_append, mem_cpe ha _ (Nat.le_refl _), mem_cpe hb _ (Nat.le_refl _)] at he
  rcases he with ⟨p, x, h1, h2, rfl⟩ | ⟨p, x, h1, h2, rfl⟩
  · have := (stepQ_inr ha (q := (p : Int)) ⟨by omega, by omega⟩ h2).1
    dsimp only; omega
  · have := (stepQ_inr hb (q := (p : Int)) ⟨by omega, by omega⟩ h2).1
    dsimp only; omega
set_option maxHeartbeats 4000000 in
theorem a_cat (w : World) (u v : Value) (a b : Dfa) (hu : RdD (fun _ => False) w u a) (hw0 : RdD (fun _ => False) w v b) (ha : VD a) (hb : VD b) (hL : a.L = b.L) (hT : TbA w) (hS : (minD a).fin.length + (minD b).fin.length ≤ 64) : CallS Tryz.prog 21 [u, v] w (fun r o => ∃ (d9 : Dfa) (e : Int) (vF vN : Value) (rs : List Value), LngOk a.L (fun l => ∃ u v : List UInt8, l = u ++ v ∧ okL a u ∧ okL b v) d9 e ∧ rs.length = d9.nx.length ∧ IsSl vF ∧ IsSl vN ∧ r = .tuple #[.agg #[.int .i64 d9.L, .int .i64 d9.s, vF, vN], .int .i64 e] ∧ o = dfaO 4 3 67 vF vN rs d9) := by
 have hu0 := hu
 have hv0 := hw0
 obtain ⟨uF, uN, rfl, huF, huN⟩ := hu
 obtain ⟨vF, vN, rfl, hvF, hvN⟩ := hw0
 have hEa : errV a = 0 := (errV_iff a).2 ha
 have hEb : errV b = 0 := (errV_iff b).2 hb
 have hMa := min_vd ha
 have hMb := min_vd hb
 have hMas := hMa.s
 have hMbs := hMb.s
 have hMan := hMa.n
 have hMbn := hMb.n
 have hMax := hMa.nx
 have hMbx := hMb.nx
 have haL := ha.L
 have suF := huF.sl
 have suN : IsSl uN := (by obtain ⟨_, _, h, _⟩ := huN; exact h.sl)
 have svF := hvF.sl
 have svN : IsSl vN := (by obtain ⟨_, _, h, _⟩ := hvN; exact h.sl)
 have hLa : (minD a).L = a.L := rfl
 have hLb : (minD b).L = b.L := rfl
 refine spec_of Tryz.func21 rfl (leb rfl) ?_
 refine .sr fun _ hK1 => ?_
 refine AK.box_ (E := 32) (cs := [.int .i64 a.L, .int .i64 a.s, uF, uN]) rfl rfl rfl trivial rfl (fun bx2 => ?_)
 refine AK.box_ (E := 32) (cs := [.int .i64 b.L, .int .i64 b.s, vF, vN]) rfl rfl rfl trivial rfl (fun bx3 => ?_)
 refine AK.alloc el32 rfl rfl trivial rfl (fun bx4 => ?_)
 refine .as rfl (.nt hK1 ?_)
 refine .sr fun _ hK2 => ?_
 refine .v (.loadBoxG ag32 rfl bsp rfl rfl) (.v (.loadBoxG ag32 rfl bsp rfl rfl) ?_)
 refine AK.call co62 rfl (fun w hw => a_both w _ _ a b (hu0.at hw) (hv0.at hw) ha hb hL) trivial rfl ?_
 rintro r o ⟨pF, pN, qF, qN, prs, qrs, hprs, hqrs, spF, spN, sqF, sqN, rfl, rfl⟩
 conv => enter [2, 2]; dsimp only [dfaO, List.set_cons_zero, List.set_cons_succ, List.cons_append, List.nil_append]
 refine .mv rfl (.v (.extract rfl rfl) (.v (.extract rfl rfl) (.v (.extract rfl rfl) ?_)))
 refine AK.alloc el32 rfl rfl trivial rfl (fun bx6 => ?_)
 refine AK.alloc el32 rfl rfl trivial rfl (fun bx7 => ?_)
 refine AK.storeBox 9 (us := [.int .i64 (minD a).L, .int .i64 (minD a).s, pF, pN]) (cs' := [.int .i64 (minD a).L, .int .i64 (minD a).s, pF, pN]) rfl sz32 rfl rfl rfl rfl oneP (leb rfl) rfl trivial ?_
 refine AK.storeBox 10 (us := [.int .i64 (minD b).L, .int .i64 (minD b).s, qF, qN]) (cs' := [.int .i64 (minD b).L, .int .i64 (minD b).s, qF, qN]) rfl sz32 rfl rfl rfl rfl oneP (leb rfl) rfl trivial ?_
 refine .as rfl (.nt hK2 ?_)
 refine .seq fun _ hK3 => ?_
 refine .sr fun _ hK4 => ?_
 refine .mv rfl (.v (.neq rfl rfl) (.nt hK4 ?_))
 refine AK.cond_f rfl (decide_eq_false (by omega)) ?_
 refine .skip ?_
 refine AK.then_ (hK3 _ ?_)
 refine .sr fun _ hK5 => ?_
 refine .v (.fieldAddr fd32_0 rfl) (.v (.loadBox on3 rfl bsp rfl) (.v (.fieldAddr fd32_2 rfl) (.v (.loadBox on29 rfl bsp rfl) ?_)))
 refine .v (.lenR sl29 rfl (by first | exact rdp | exact (RdS.own 3 rfl))) ?_
 refine .v (.fieldAddr fd32_2 rfl) (.v (.loadBox on29 rfl bsp rfl) ?_)
 refine .v (.lenR sl29 rfl (by first | exact rdp | exact (RdS.own 3 rfl))) ?_
 refine .v (.addE ((((minD a).fin.length + (minD b).fin.length : Nat) : Int)) rfl rfl (by omega) (by omega)) ?_
 refine AK.call co63 rfl (fun w hw => a_begin w a.L (((minD a).fin.length + (minD b).fin.length : Nat) : Int) (by omega)) trivial rfl ?_
 rintro r o ⟨nb, rfl, rfl⟩
 conv => enter [2, 2]; dsimp only [dfaO, List.set_cons_zero, List.set_cons_succ, List.cons_append, List.nil_append]
 refine .mv rfl (.v (.extract rfl rfl) (.v (.extract rfl rfl) (.as rfl (.as rfl (.nt hK5 ?_)))))
 refine .seq fun _ hK6 => ?_
 refine .sr fun _ hK7 => ?_
 refine .mv rfl (.v (.neq rfl rfl) (.nt hK7 ?_))
 refine AK.cond_f rfl (decide_eq_false (by omega)) ?_
 refine .skip ?_
 refine AK.then_ (hK6 _ ?_)
 refine .sr fun _ hK8 => ?_
 refine .v (.fieldAddr fd32_2 rfl) (.v (.loadBox on29 rfl bsp rfl) ?_)
 refine .v (.lenR sl29 rfl (by first | exact rdp | exact (RdS.own 3 rfl))) ?_
 refine .as rfl (.nt hK8 ?_)
 refine .sr fun _ hK9 => ?_
 refine .mv rfl (.v (.loadBoxG ag32 rfl bsp rfl rfl) ?_)
 refine AK.callN 11 rfl co64 rfl (fun w Fs hw hh hfr hal => a_copy w (Fs 11) nb ⟨a.L, (((minD a).fin.length + (minD b).fin.length : Nat) : Int), 0, 0, []⟩ _ (minD a) 0 hMa (RdD.offOwn 11 3 hh hprs rfl rfl rfl (by decide)) (by omega) (by simp) (hh.at_ 11 _ rfl)) trivial rfl ?_
 rintro r A o ⟨rfl, rfl⟩
 have hl1 := cpe_len hMa ((0 : Nat) : Int) (minD a).fin.length (Nat.le_refl _)
 conv => enter [2, 2]; dsimp only [dfaO, List.set_cons_zero, List.set_cons_succ, List.cons_append, List.nil_append]
 refine .nt hK9 ?_
 refine .sr fun _ hK10 => ?_
 refine .mv rfl (.v (.loadBoxG ag32 rfl bsp rfl rfl) (.mv rfl ?_))
 refine AK.callN 11 rfl co64 rfl (fun w Fs hw hh hfr hal => a_copy w (Fs 11) nb (addEs ⟨a.L, (((minD a).fin.length + (minD b).fin.length : Nat) : Int), 0, 0, []⟩ (cpe (minD a) ((0 : Nat) : Int) (minD a).fin.length)) _ (minD b) (minD a).fin.length hMb (RdD.offOwn 11 6 hh hqrs rfl rfl rfl (by decide)) (by omega) (by show ([] ++ _).length ≤ _; rw [List.nil_append]; omega) (hh.at_ 11 _ rfl)) trivial rfl ?_
 rintro r A o ⟨rfl, rfl⟩
 have hl2 := cpe_len hMb (((minD a).fin.length : Nat) : Int) (minD b).fin.length (Nat.le_refl _)
 conv => enter [2, 2]; dsimp only [dfaO, List.set_cons_zero, List.set_cons_succ, List.cons_append, List.nil_append]
 refine .nt hK10 ?_
 refine .sr fun _ hK11 => ?_
 refine .mv rfl (.v (.fieldAddr fd32_2 rfl) (.v (.loadBox on29 rfl bsp rfl) (.mv rfl (.v (.fieldAddr fd32_1 rfl) (.v (.loadBox on3 rfl bsp rfl) ?_)))))
 refine .v (.add rfl rfl (by omega)) ?_
 refine AK.callN 11 rfl co65 rfl (fun w Fs hw hh hfr hal => a_shortcut w (Fs 11) nb (addEs (addEs ⟨a.L, (((minD a).fin.length + (minD b).fin.length : Nat) : Int), 0, 0, []⟩ (cpe (minD a) ((0 : Nat) : Int) (minD a).fin.length)) (cpe (minD b) (((minD a).fin.length : Nat) : Int) (minD b).fin.length)) pF (minD a).fin (((minD a).fin.length : Int) + (minD b).s) (RdL.offOwn 3 hh rfl (by decide)) (by show (([] ++ _) ++ _).length ≤ _; rw [List.nil_append, List.length_append]; omega) (cat_pos hMa hMb rfl) (hh.at_ 11 _ rfl)) trivial rfl ?_
 rintro r A o ⟨rfl, rfl⟩
 conv => enter [2, 2]; dsimp only [dfaO, List.set_cons_zero, List.set_cons_succ, List.cons_append, List.nil_append]
 refine .nt hK11 ?_
 refine .sr fun _ hK12 => ?_
 refine .mv rfl (.v (.fieldAddr fd32_1 rfl) (.v (.loadBox on3 rfl bsp rfl) ?_))
 refine AK.callN 11 rfl co66 rfl (fun w Fs hw hh hfr hal => a_start w (Fs 11) nb _ _ hMas.1 (hh.at_ 11 _ rfl)) trivial rfl ?_
 rintro r A o ⟨rfl, rfl⟩
 conv => enter [2, 2]; dsimp only [dfaO, List.set_cons_zero, List.set_cons_succ, List.cons_append, List.nil_append]
 refine .nt hK12 ?_
 refine .seq fun _ hK13 => ?_
 refine .sr fun _ hK14 => ?_
 refine .v (.fieldAddr fd32_2 rfl) (.v (.loadBox on29 rfl bsp rfl) (.v (.fieldAddr fd32_1 rfl) (.v (.loadBox on3 rfl bsp rfl) ?_)))
 first | refine .v (.iN sl29 rfl rfl (hr := (by first | exact rdp | exact (RdS.own 3 rfl)))) ?_ | refine .v (.iK sl29 rfl rfl (hr := (by first | exact rdp | exact (RdS.own 3 rfl)))) ?_
 refine .v (.loadB on4 rfl (by first | exact rdp | exact (RdS.own 3 rfl)) (by omega)) ?_
 refine .nt hK14 ?_
 refine AK.cond rfl (fun hc2 => ?_) (fun hc2 => ?_)
 ·try simp only [bs] at hc2
  refine AK.region ?_
  refine .mv rfl (.mv rfl (.v (.fieldAddr fd32_1 rfl) (.v (.loadBox on3 rfl bsp rfl) ?_)))
  refine .v (.add rfl rfl (by omega)) ?_
  refine AK.callN 11 rfl co66 rfl (fun w Fs hw hh hfr hal => a_start w (Fs 11) nb _ _ (by omega) (hh.at_ 11 _ rfl)) trivial rfl ?_
  rintro r A o ⟨rfl, rfl⟩
  conv => enter [2, 2]; dsimp only [dfaO, List.set_cons_zero, List.set_cons_succ, List.cons_append, List.nil_append]
  refine .nt hK13 ?_
  refine .sr fun _ hK15 => ?_
  refine .mv rfl (.v (.fieldAddr fd32_2 rfl) (.v (.loadBox on29 rfl bsp rfl) (.mv rfl ?_)))
  refine AK.callN 11 rfl co67 rfl (fun w Fs hw hh hfr hal => a_finals w (Fs 11) nb _ qF (minD b).fin (minD a).fin.length (RdL.offOwn 6 hh rfl (by decide)) (by omega) (hh.at_ 11 _ rfl)) trivial rfl ?_
  rintro r A o ⟨rfl, rfl⟩
  conv => enter [2, 2]; dsimp only [dfaO, List.set_cons_zero, List.set_cons_succ, List.cons_append, List.nil_append]
  refine .nt hK15 ?_
  refine .sr fun _ hK16 => ?_
  refine .mv rfl ?_
  refine AK.own' [box bx2 32 4 [.int .i64 a.L, .int .i64 a.s, uF, uN], box bx3 32 4 [.int .i64 b.L, .int .i64 b.s, vF, vN], box bx4 32 4 [.int .i64 0, .int .i64 0, .slice none 0 0, .slice none 0 0], row pF 4 1 (minD a).fin.length ((minD a).fin.map Value.bool), row pN 67 1 (minD a).nx.length prs, bigA (matG (Value.int .i64) 3 prs (minD a).nx), row qF 4 1 (minD b).fin.length ((minD b).fin.map Value.bool), row qN 67 1 (minD b).nx.length qrs, bigA (matG (Value.int .i64) 3 qrs (minD b).nx), box bx6 32 4 [.int .i64 (minD a).L, .int .i64 (minD a).s, pF, pN], box bx7 32 4 [.int .i64 (minD b).L, .int .i64 (minD b).s, qF, qN], autX 158 98 nb (catN (minD a) (minD b))] (fun w hw => by
   have e : (⟨a.L, (((minD a).fin.length + (minD b).fin.length : Nat) : Int), ((0 : W64) ||| bit (minD a).s) ||| bit (((minD a).fin.length : Int) + (minD b).s), orF 0 (minD b).fin (minD a).fin.length (minD b).fin.length, ([] ++ cpe (minD a) ((0 : Nat) : Int) (minD a).fin.length ++ cpe (minD b) (((minD a).fin.length : Nat) : Int) (minD b).fin.length) ++ shcE (minD a).fin (((minD a).fin.length : Int) + (minD b).s) ([] ++ cpe (minD a) ((0 : Nat) : Int) (minD a).fin.length ++ cpe (minD b) (((minD a).fin.length : Nat) : Int) (minD b).fin.length)⟩ : Nfa) = catN (minD a) (minD b) := by
    have hz : (0 : W64) ||| bit (minD a).s = bit (minD a).s := BitVec.zero_or
    unfold catN catE
    rw [if_pos hc2, hz, List.nil_append]; rfl
   rw [← e]
   exact hw) ?_
  have hln := catE_len hMa hMb hS
  refine AK.callN 11 rfl co68 rfl (fun w Fs hw hh hfr hal => a_lang w (Fs 11) nb (catN (minD a) (minD b)) (cat_wn hMa hMb hL hS) ⟨hln.1, by have := hln.2; show (catE (minD a) (minD b)).length ≤ _; omega⟩ (hT.at hw) (fun hb => by rcases hal 11 0 hb with h | h; exact absurd hT.lt (Nat.not_lt.2 h); exact h) (hh.at_ 11 _ rfl)) trivial rfl ?_
  rintro r A o ⟨d9, e, vF9, vN9, rs9, n2, hL9, hrs9, sF9, sN9, rfl, rfl, rfl⟩
  refine .v (.extract rfl rfl) (.v (.extract rfl rfl) ?_)
  refine AK.storeBox 2 (us := [.int .i64 d9.L, .int .i64 d9.s, vF9, vN9]) (cs' := [.int .i64 d9.L, .int .i64 d9.s, vF9, vN9]) rfl sz32 rfl rfl rfl rfl oneP (leb rfl) rfl trivial ?_
  refine .as rfl (.nt hK16 (.ret ?_))
  refine AK.retG [.cell 4 32, .tmp 5] rfl (.cons (.cell ag32 rfl bsp rfl rfl) (.cons (.tmp rfl) (.nil))) (fun w hw => ⟨_, _, ?_, rfl, Ret.of (hw.pick [12, 13, 14] (by decide) rfl rfl)⟩)
  exact ⟨d9, e, vF9, vN9, rs9, lng_cat ha hb hL hS hL9, hrs9, sF9, sN9, rfl, rfl⟩
 ·try simp only [bs] at hc2
  refine .skip ?_
  refine AK.then_ (hK13 _ ?_)
  refine .sr fun _ hK17 => ?_
  refine .mv rfl (.v (.fieldAddr fd32_2 rfl) (.v (.loadBox on29 rfl bsp rfl) (.mv rfl ?_)))
  refine AK.callN 11 rfl co67 rfl (fun w Fs hw hh hfr hal => a_finals w (Fs 11) nb _ qF (minD b).fin (minD a).fin.length (RdL.offOwn 6 hh rfl (by decide)) (by omega) (hh.at_ 11 _ rfl)) trivial rfl ?_
  rintro r A o ⟨rfl, rfl⟩
  conv => enter [2, 2]; dsimp only [dfaO, List.set_cons_zero, List.set_cons_succ, List.cons_append, List.nil_append]
  refine .nt hK17 ?_
  refine .sr fun _ hK18 => ?_
  refine .mv rfl ?_
  refine AK.own' [box bx2 32 4 [.int .i64 a.L, .int .i64 a.s, uF, uN], box bx3 32 4 [.int .i64 b.L, .int .i64 b.s, vF, vN], box bx4 32 4 [.int .i64 0, .int .i64 0, .slice none 0 0, .slice none 0 0], row pF 4 1 (minD a).fin.length ((minD a).fin.map Value.bool), row pN 67 1 (minD a).nx.length prs, bigA (matG (Value.int .i64) 3 prs (minD a).nx), row qF 4 1 (minD b).fin.length ((minD b).fin.map Value.bool), row qN 67 1 (minD b).nx.length qrs, bigA (matG (Value.int .i64) 3 qrs (minD b).nx), box bx6 32 4 [.int .i64 (minD a).L, .int .i64 (minD a).s, pF, pN], box bx7 32 4 [.int .i64 (minD b).L, .int .i64 (minD b).s, qF, qN], autX 158 98 nb (catN (minD a) (minD b))] (fun w hw => by
   have e : (⟨a.L, (((minD a).fin.length + (minD b).fin.length : Nat) : Int), (0 : W64) ||| bit (minD a).s, orF 0 (minD b).fin (minD a).fin.length (minD b).fin.length, ([] ++ cpe (minD a) ((0 : Nat) : Int) (minD a).fin.length ++ cpe (minD b) (((minD a).fin.length : Nat) : Int) (minD b).fin.length) ++ shcE (minD a).fin (((minD a).fin.length : Int) + (minD b).s) ([] ++ cpe (minD a) ((0 : Nat) : Int) (minD a).fin.length ++ cpe (minD b) (((minD a).fin.length : Nat) : Int) (minD b).fin.length)⟩ : Nfa) = catN (minD a) (minD b) := by
    have hz : (0 : W64) ||| bit (minD a).s = bit (minD a).s := BitVec.zero_or
    unfold catN catE
    rw [if_neg (fun h => by rw [hc2] at h; cases h), hz, List.nil_append]; rfl
   rw [← e]
   exact hw) ?_
  have hln := catE_len hMa hMb hS
  refine AK.callN 11 rfl co68 rfl (fun w Fs hw hh hfr hal => a_lang w (Fs 11) nb (catN (minD a) (minD b)) (cat_wn hMa hMb hL hS) ⟨hln.1, by have := hln.2; show (catE (minD a) (minD b)).length ≤ _; omega⟩ (hT.at hw) (fun hb => by rcases hal 11 0 hb with h | h; exact absurd hT.lt (Nat.not_lt.2 h); exact h) (hh.at_ 11 _ rfl)) trivial rfl ?_
  rintro r A o ⟨d9, e, vF9, vN9, rs9, n2, hL9, hrs9, sF9, sN9, rfl, rfl, rfl⟩
  refine .v (.extract rfl rfl) (.v (.extract rfl rfl) ?_)
  refine AK.storeBox 2 (us := [.int .i64 d9.L, .int .i64 d9.s, vF9, vN9]) (cs' := [.int .i64 d9.L, .int .i64 d9.s, vF9, vN9]) rfl sz32 rfl rfl rfl rfl oneP (leb rfl) rfl trivial ?_
  refine .as rfl (.nt hK18 (.ret ?_))
  refine AK.retG [.cell 4 32, .tmp 5] rfl (.cons (.cell ag32 rfl bsp rfl rfl) (.cons (.tmp rfl) (.nil))) (fun w hw => ⟨_, _, ?_, rfl, Ret.of (hw.pick [12, 13, 14] (by decide) rfl rfl)⟩)
  exact ⟨d9, e, vF9, vN9, rs9, lng_cat ha hb hL hS hL9, hrs9, sF9, sN9, rfl, rfl⟩

set_option maxHeartbeats 4000000 in
theorem a_cat3 (w : World) (u v : Value) (a b : Dfa) (hu : RdD (fun _ => False) w u a) (hw0 : RdD (fun _ => False) w v b) (ha : VD a) (hb : VD b) (hL : a.L = b.L) (hT : TbA w) (hS : 64 < (minD a).fin.length + (minD b).fin.length) : CallS Tryz.prog 21 [u, v] w (fun r o => ∃ (d9 : Dfa) (e : Int) (vF vN : Value) (rs : List Value), LngOk a.L (fun l => ∃ u v : List UInt8, l = u ++ v ∧ okL a u ∧ okL b v) d9 e ∧ rs.length = d9.nx.length ∧ IsSl vF ∧ IsSl vN ∧ r = .tuple #[.agg #[.int .i64 d9.L, .int .i64 d9.s, vF, vN], .int .i64 e] ∧ o = dfaO 4 3 67 vF vN rs d9) := by
 have hu0 := hu
 have hv0 := hw0
 obtain ⟨uF, uN, rfl, huF, huN⟩ := hu
 obtain ⟨vF, vN, rfl, hvF, hvN⟩ := hw0
 have hEa : errV a = 0 := (errV_iff a).2 ha
 have hEb : errV b = 0 := (errV_iff b).2 hb
 have hMa := min_vd ha
 have hMb := min_vd hb
 have hMas := hMa.s
 have hMbs := hMb.s
 have hMan := hMa.n
 have hMbn := hMb.n
 have hMax := hMa.nx
 have hMbx := hMb.nx
 have haL := ha.L
 have suF := huF.sl
 have suN : IsSl uN := (by obtain ⟨_, _, h, _⟩ := huN; exact h.sl)
 have svF := hvF.sl
 have svN : IsSl vN := (by obtain ⟨_, _, h, _⟩ := hvN; exact h.sl)
 have hLa : (minD a).L = a.L := rfl
 have hLb : (minD b).L = b.L := rfl
 refine spec_of Tryz.func21 rfl (leb rfl) ?_
 refine .sr fun _ hK1 => ?_
 refine AK.box_ (E := 32) (cs := [.int .i64 a.L, .int .i64 a.s, uF, uN]) rfl rfl rfl trivial rfl (fun bx2 => ?_)
 refine AK.box_ (E := 32) (cs := [.int .i64 b.L, .int .i64 b.s, vF, vN]) rfl rfl rfl trivial rfl (fun bx3 => ?_)
 refine AK.alloc el32 rfl rfl trivial rfl (fun bx4 => ?_)
 refine .as rfl (.nt hK1 ?_)
 refine .sr fun _ hK2 => ?_
 refine .v (.loadBoxG ag32 rfl bsp rfl rfl) (.v (.loadBoxG ag32 rfl bsp rfl rfl) ?_)
 refine AK.call co62 rfl (fun w hw => a_both w _ _ a b (hu0.at hw) (hv0.at hw) ha hb hL) trivial rfl ?_
 rintro r o ⟨pF, pN, qF, qN, prs, qrs, hprs, hqrs, spF, spN, sqF, sqN, rfl, rfl⟩
 conv => enter [2, 2]; dsimp only [dfaO, List.set_cons_zero, List.set_cons_succ, List.cons_append, List.nil_append]
 refine .mv rfl (.v (.extract rfl rfl) (.v (.extract rfl rfl) (.v (.extract rfl rfl) ?_)))
 refine AK.alloc el32 rfl rfl trivial rfl (fun bx6 => ?_)
 refine AK.alloc el32 rfl rfl trivial rfl (fun bx7 => ?_)
 refine AK.storeBox 9 (us := [.int .i64 (minD a).L, .int .i64 (minD a).s, pF, pN]) (cs' := [.int .i64 (minD a).L, .int .i64 (minD a).s, pF, pN]) rfl sz32 rfl rfl rfl rfl oneP (leb rfl) rfl trivial ?_
 refine AK.storeBox 10 (us := [.int .i64 (minD b).L, .int .i64 (minD b).s, qF, qN]) (cs' := [.int .i64 (minD b).L, .int .i64 (minD b).s, qF, qN]) rfl sz32 rfl rfl rfl rfl oneP (leb rfl) rfl trivial ?_
 refine .as rfl (.nt hK2 ?_)
 refine .seq fun _ hK3 => ?_
 refine .sr fun _ hK4 => ?_
 refine .mv rfl (.v (.neq rfl rfl) (.nt hK4 ?_))
 refine AK.cond_f rfl (decide_eq_false (by omega)) ?_
 refine .skip ?_
 refine AK.then_ (hK3 _ ?_)
 refine .sr fun _ hK5 => ?_
 refine .v (.fieldAddr fd32_0 rfl) (.v (.loadBox on3 rfl bsp rfl) (.v (.fieldAddr fd32_2 rfl) (.v (.loadBox on29 rfl bsp rfl) ?_)))
 refine .v (.lenR sl29 rfl (by first | exact rdp | exact (RdS.own 3 rfl))) ?_
 refine .v (.fieldAddr fd32_2 rfl) (.v (.loadBox on29 rfl bsp rfl) ?_)
 refine .v (.lenR sl29 rfl (by first | exact rdp | exact (RdS.own 3 rfl))) ?_
 refine .v (.addE ((((minD a).fin.length + (minD b).fin.length : Nat) : Int)) rfl rfl (by omega) (by omega)) ?_
 refine AK.call co63 rfl (fun w hw => a_begin3 w a.L (((minD a).fin.length + (minD b).fin.length : Nat) : Int) (by omega)) trivial rfl ?_
 rintro r o ⟨rfl, rfl⟩
 conv => enter [2, 2]; dsimp only [dfaO, List.set_cons_zero, List.set_cons_succ, List.cons_append, List.nil_append]
 refine .mv rfl (.v (.extract rfl rfl) (.v (.extract rfl rfl) (.as rfl (.as rfl (.nt hK5 ?_)))))
 refine .seq fun _ hK6 => ?_
 refine .sr fun _ hK7 => ?_
 refine .mv rfl (.v (.neq rfl rfl) (.nt hK7 ?_))
 refine AK.cond_t rfl (decide_eq_true (by omega)) ?_
 refine .sr fun _ hK8 => ?_
 refine .v (.build (parts := []) (cs := #[.int .i64 0, .int .i64 0, .slice none 0 0, .slice none 0 0]) rfl (by kernel_rfl)) ?_
 refine .mv rfl ?_
 refine AK.storeBox 2 (us := [.int .i64 0, .int .i64 0, .slice none 0 0, .slice none 0 0]) (cs' := [.int .i64 0, .int .i64 0, .slice none 0 0, .slice none 0 0]) rfl sz32 rfl rfl rfl rfl oneP (leb rfl) rfl trivial ?_
 refine .as rfl (.nt hK8 (.ret (.then_ret ?_)))
 refine AK.own' (dfaO 4 3 67 (.slice none 0 0) (.slice none 0 0) [] nilD ++ [box bx4 32 4 [.int .i64 0, .int .i64 0, .slice none 0 0, .slice none 0 0]]) (fun w hw => by have h1 := (((hw.pick [2] (by decide) rfl rfl).ghost 4 1).ghost 67 1).ghostG (f := Value.int .i64) 3; exact h1.pick [1, 2, 3, 0] (by decide) rfl rfl) ?_
 refine AK.retG [.cell 4 32, .tmp 5] rfl (.cons (.cell ag32 rfl bsp rfl rfl) (.cons (.tmp rfl) (.nil))) (fun w hw => ⟨_, _, ?_, rfl, Ret.of (hw.pick [0, 1, 2] (by decide) rfl rfl)⟩)
 exact ⟨nilD, 3, _, _, [], .inl ⟨rfl, rfl⟩, rfl, nilSl, nilSl, rfl, rfl⟩

set_option maxHeartbeats 4000000 in
theorem a_sta (w : World) (v : Value) (d : Dfa) (h : RdD (fun _ => False) w v d) (hv : VD d) (hT : TbA w) (hS : (minD d).fin.length + 1 ≤ 64) : CallS Tryz.prog 22 [v] w (fun r o => ∃ (d9 : Dfa) (e : Int) (vF vN : Value) (rs : List Value), LngOk d.L (fun l => StarL (okL d) l) d9 e ∧ rs.length = d9.nx.length ∧ IsSl vF ∧ IsSl vN ∧ r = .tuple #[.agg #[.int .i64 d9.L, .int .i64 d9.s, vF, vN], .int .i64 e] ∧ o = dfaO 4 3 67 vF vN rs d9) := by
 have h0 := h
 obtain ⟨vF, vN, rfl, hF, hN⟩ := h
 have hF0 := hF
 have hN0 := hN
 obtain ⟨rs, hrl, hNr, hNi⟩ := hN
 have sF := hF.sl
 have sN := hNr.sl
 have hmf := hF.le
 have hmn := hNr.le
 unfold RdL at hF
 have hM := min_vd hv
 have hMs := hM.s
 have hMn := hM.n
 have hMx := hM.nx
 have hdL := hv.L
 have hLa : (minD d).L = d.L := rfl
 have hrw := hM.row (minD d).s.toNat (by omega)
 refine spec_of Tryz.func22 rfl (leb rfl) ?_
 refine .sr fun _ hK1 => ?_
 refine AK.box_ (E := 32) (cs := [.int .i64 d.L, .int .i64 d.s, vF, vN]) rfl rfl rfl trivial rfl (fun bx1 => ?_)
 refine AK.alloc el32 rfl rfl trivial rfl (fun bx2 => ?_)
 refine .as rfl (.nt hK1 ?_)
 refine .sr fun _ hK2 => ?_
 refine .v (.loadBoxG ag32 rfl bsp rfl rfl) ?_
 refine AK.call co69 rfl (fun w hw => a_minimal w _ d (h0.at hw) hv) trivial rfl ?_
 rintro r o ⟨mF, mN, mrs, hmrs, smF, smN, rfl, rfl⟩
 conv => enter [2, 2]; dsimp only [dfaO, List.set_cons_zero, List.set_cons_succ, List.cons_append, List.nil_append]
 refine .mv rfl (.v (.extract rfl rfl) (.v (.extract rfl rfl) ?_))
 refine AK.alloc el32 rfl rfl trivial rfl (fun bx4 => ?_)
 refine AK.storeBox 5 (us := [.int .i64 (minD d).L, .int .i64 (minD d).s, mF, mN]) (cs' := [.int .i64 (minD d).L, .int .i64 (minD d).s, mF, mN]) rfl sz32 rfl rfl rfl rfl oneP (leb rfl) rfl trivial ?_
 refine .as rfl (.nt hK2 ?_)
 refine .seq fun _ hK3 => ?_
 refine .sr fun _ hK4 => ?_
 refine .mv rfl (.v (.neq rfl rfl) (.nt hK4 ?_))
 refine AK.cond_f rfl (decide_eq_false (by omega)) ?_
 refine .skip ?_
 refine AK.then_ (hK3 _ ?_)
 refine .sr fun _ hK5 => ?_
 refine .v (.fieldAddr fd32_2 rfl) (.v (.loadBox on29 rfl bsp rfl) ?_)
 refine .v (.lenR sl29 rfl (by first | exact rdp | exact (RdS.big 4 (minD d).s.toNat rfl (matG_get hmrs (by omega))) | exact (RdS.big 3 (minD d).s.toNat rfl (matG_get hmrs (by omega))))) ?_
 refine .as rfl (.nt hK5 ?_)
 refine .sr fun _ hK6 => ?_
 refine .v (.fieldAddr fd32_0 rfl) (.v (.loadBox on3 rfl bsp rfl) (.mv rfl ?_))
 refine .v (.addE ((((minD d).fin.length + 1 : Nat) : Int)) rfl rfl (by omega) (by omega)) ?_
 refine AK.call co63 rfl (fun w hw => a_begin w d.L (((minD d).fin.length + 1 : Nat) : Int) (by omega)) trivial rfl ?_
 rintro r o ⟨nb, rfl, rfl⟩
 conv => enter [2, 2]; dsimp only [dfaO, List.set_cons_zero, List.set_cons_succ, List.cons_append, List.nil_append]
 refine .mv rfl (.v (.extract rfl rfl) (.v (.extract rfl rfl) (.as rfl (.as rfl (.nt hK6 ?_)))))
 refine .seq fun _ hK7 => ?_
 refine .sr fun _ hK8 => ?_
 refine .mv rfl (.v (.neq rfl rfl) (.nt hK8 ?_))
 refine AK.cond_f rfl (decide_eq_false (by omega)) ?_
 refine .skip ?_
 refine AK.then_ (hK7 _ ?_)
 refine .sr fun _ hK9 => ?_
 refine .mv rfl (.v (.loadBoxG ag32 rfl bsp rfl rfl) ?_)
 refine AK.callN 6 rfl co64 rfl (fun w Fs hw hh hfr hal => a_copy w (Fs 6) nb ⟨d.L, (((minD d).fin.length + 1 : Nat) : Int), 0, 0, []⟩ _ (minD d) 0 hM (RdD.offOwn 6 2 hh hmrs rfl rfl rfl (by decide)) (by omega) (by simp) (hh.at_ 6 _ rfl)) trivial rfl ?_
 rintro r A o ⟨rfl, rfl⟩
 have hl1 := cpe_len hM ((0 : Nat) : Int) (minD d).fin.length (Nat.le_refl _)
 conv => enter [2, 2]; dsimp only [dfaO, List.set_cons_zero, List.set_cons_succ, List.cons_append, List.nil_append]
 refine .nt hK9 ?_
 refine .seq fun _ hK10 => ?_
 refine .sr fun _ hK11 => ?_
 refine .v (.fieldAddr fd32_3 rfl) (.v (.loadBox on30 rfl bsp rfl) (.v (.fieldAddr fd32_1 rfl) (.v (.loadBox on3 rfl bsp rfl) ?_)))
 first | refine .v (.iN sl30 rfl rfl (hr := (by first | exact rdp | exact (RdS.big 4 (minD d).s.toNat rfl (matG_get hmrs (by omega))) | exact (RdS.big 3 (minD d).s.toNat rfl (matG_get hmrs (by omega)))))) ?_ | refine .v (.iK sl30 rfl rfl (hr := (by first | exact rdp | exact (RdS.big 4 (minD d).s.toNat rfl (matG_get hmrs (by omega))) | exact (RdS.big 3 (minD d).s.toNat rfl (matG_get hmrs (by omega)))))) ?_
 refine .v (.loadV on67 rfl (by first | exact rdp | exact (RdS.big 4 (minD d).s.toNat rfl (matG_get hmrs (by omega))) | exact (RdS.big 3 (minD d).s.toNat rfl (matG_get hmrs (by omega)))) (by omega)) ?_
 refine .v (.lenR sl67 rfl (by first | exact rdp | exact (RdS.big 4 (minD d).s.toNat rfl (matG_get hmrs (by omega))) | exact (RdS.big 3 (minD d).s.toNat rfl (matG_get hmrs (by omega))))) ?_
 refine .mv rfl (.nt hK11 (.block ?_))
 refine AK.loopK (X := Nat) [(2, _), (4, _), (6, _), (7, _), (42, _), (43, _)] (fun k => [(44, .int .i64 (k : Int))]) (fun k => [box bx2 32 4 [.int .i64 0, .int .i64 0, .slice none 0 0, .slice none 0 0], row mF 4 1 (minD d).fin.length ((minD d).fin.map Value.bool), row mN 67 1 (minD d).nx.length mrs, bigA (matG (Value.int .i64) 3 mrs (minD d).nx), box bx4 32 4 [.int .i64 (minD d).L, .int .i64 (minD d).s, mF, mN], autX 158 98 nb (addEs (addEs ⟨d.L, (((minD d).fin.length + 1 : Nat) : Int), 0, 0, []⟩ (cpe (minD d) ((0 : Nat) : Int) (minD d).fin.length)) ((List.range k).map fun (x : Nat) => (((minD d).fin.length : Int), (x : Int), stepQ (minD d) (minD d).s x)))]) (fun k => k ≤ (minD d).L.toNat) (fun k => (minD d).L.toNat - k) (0) slr ?_ ?_ ?_ ?_
 ·omega
 ·exact slr
 ·exact fun w hw => by rw [show ((List.range 0).map fun (x : Nat) => (((minD d).fin.length : Int), (x : Int), stepQ (minD d) (minD d).s x)) = [] from rfl, addEs_nil]; exact hw.pick [1, 2, 3, 4, 5, 6] (by decide) rfl rfl
 ·intro k hg0 _ hK12
  refine .sr fun _ hK13 => ?_
  refine .v (.lss rfl rfl) (.nt hK13 ?_)
  refine .seq fun _ hK14 => ?_
  refine AK.condD rfl (fun hc2 => ?_) (fun hc2 => ?_)
  ·have hel : (addEs (addEs ⟨d.L, (((minD d).fin.length + 1 : Nat) : Int), 0, 0, []⟩ (cpe (minD d) ((0 : Nat) : Int) (minD d).fin.length)) ((List.range k).map fun (x : Nat) => (((minD d).fin.length : Int), (x : Int), stepQ (minD d) (minD d).s x))).es.length ≤ 1000000000 := (by show (([] ++ _) ++ _).length ≤ _; rw [List.nil_append, List.length_append, List.length_map, List.length_range]; omega)
   refine .skip ?_
   refine AK.then_ (hK14 _ ?_)
   refine .seq fun _ hK15 => ?_
   refine .block ?_
   refine .sr fun _ hK16 => ?_
   refine .mv rfl ?_
   first | refine .v (.iN sl67 rfl rfl (hr := (by first | exact rdp | exact (RdS.big 4 (minD d).s.toNat rfl (matG_get hmrs (by omega))) | exact (RdS.big 3 (minD d).s.toNat rfl (matG_get hmrs (by omega)))))) ?_ | refine .v (.iK sl67 rfl rfl (hr := (by first | exact rdp | exact (RdS.big 4 (minD d).s.toNat rfl (matG_get hmrs (by omega))) | exact (RdS.big 3 (minD d).s.toNat rfl (matG_get hmrs (by omega)))))) ?_
   refine .v (.loadI on3 rfl (by first | exact rdp | exact (RdS.big 4 (minD d).s.toNat rfl (matG_get hmrs (by omega))) | exact (RdS.big 3 (minD d).s.toNat rfl (matG_get hmrs (by omega)))) (by omega)) ?_
   refine .as rfl (.as rfl (.nt hK16 ?_))
   refine AK.region ?_
   refine .mv rfl (.mv rfl (.mv rfl (.mv rfl ?_)))
   refine AK.callM 5 rfl co70 rfl (fun w F hw hA => a_edge w F nb _ _ _ _ hel hA) trivial rfl ?_
   rintro r A o ⟨rfl, rfl⟩
   refine .nil (.block_normal ?_)
   refine AK.then_ (hK15 _ ?_)
   refine AK.region ?_
   refine .v (.add rfl rfl (by omega)) ?_
   refine .mv rfl (.nil ?_)
   refine AK.then_ (hK12 _ _ (k + 1) (by omega) (by omega) (slr) (fun w hw => by rw [List.range_succ, List.map_append]; rw [addE_addEs] at hw; exact hw))
  ·have hk : k = (minD d).L.toNat := by omega
   subst hk
   refine .exit (.then_exit (.then_exit (.block_exit ?_)))
   refine AK.then_ (hK10 _ ?_)
   refine .sr fun _ hK17 => ?_
   refine .mv rfl (.v (.fieldAddr fd32_2 rfl) (.v (.loadBox on29 rfl bsp rfl) (.v (.fieldAddr fd32_1 rfl) (.v (.loadBox on3 rfl bsp rfl) ?_))))
   refine AK.callN 5 rfl co65 rfl (fun w Fs hw hh hfr hal => a_shortcut w (Fs 5) nb _ mF (minD d).fin (minD d).s (RdL.offOwn 1 hh rfl (by decide)) (by show (([] ++ _) ++ _).length ≤ _; rw [List.nil_append, List.length_append, List.length_map, List.length_range]; omega) (sta_pos hM rfl) (hh.at_ 5 _ rfl)) trivial rfl ?_
   rintro r A o ⟨rfl, rfl⟩
   conv => enter [2, 2]; dsimp only [dfaO, List.set_cons_zero, List.set_cons_succ, List.cons_append, List.nil_append]
   refine .nt hK17 ?_
   refine .sr fun _ hK18 => ?_
   refine .mv rfl (.mv rfl ?_)
   refine AK.callN 5 rfl co66 rfl (fun w Fs hw hh hfr hal => a_start w (Fs 5) nb _ _ (by omega) (hh.at_ 5 _ rfl)) trivial rfl ?_
   rintro r A o ⟨rfl, rfl⟩
   conv => enter [2, 2]; dsimp only [dfaO, List.set_cons_zero, List.set_cons_succ, List.cons_append, List.nil_append]
   refine .nt hK18 ?_
   refine .sr fun _ hK19 => ?_
   refine .mv rfl (.mv rfl ?_)
   refine AK.callN 5 rfl co71 rfl (fun w Fs hw hh hfr hal => a_final w (Fs 5) nb _ _ (by omega) (hh.at_ 5 _ rfl)) trivial rfl ?_
   rintro r A o ⟨rfl, rfl⟩
   conv => enter [2, 2]; dsimp only [dfaO, List.set_cons_zero, List.set_cons_succ, List.cons_append, List.nil_append]
   refine .nt hK19 ?_
   refine .sr fun _ hK20 => ?_
   refine .mv rfl (.v (.fieldAddr fd32_2 rfl) (.v (.loadBox on29 rfl bsp rfl) ?_))
   refine AK.callN 5 rfl co67 rfl (fun w Fs hw hh hfr hal => a_finals w (Fs 5) nb _ mF (minD d).fin 0 (RdL.offOwn 1 hh rfl (by decide)) (by omega) (hh.at_ 5 _ rfl)) trivial rfl ?_
   rintro r A o ⟨rfl, rfl⟩
   conv => enter [2, 2]; dsimp only [dfaO, List.set_cons_zero, List.set_cons_succ, List.cons_append, List.nil_append]
   refine .nt hK20 ?_
   refine .sr fun _ hK21 => ?_
   refine .mv rfl ?_
   refine AK.own' [box bx2 32 4 [.int .i64 0, .int .i64 0, .slice none 0 0, .slice none 0 0], row mF 4 1 (minD d).fin.length ((minD d).fin.map Value.bool), row mN 67 1 (minD d).nx.length mrs, bigA (matG (Value.int .i64) 3 mrs (minD d).nx), box bx4 32 4 [.int .i64 (minD d).L, .int .i64 (minD d).s, mF, mN], autX 158 98 nb (staN (minD d))] (fun w hw => by
    have e : (⟨d.L, (((minD d).fin.length + 1 : Nat) : Int), (0 : W64) ||| bit ((minD d).fin.length : Int), orF ((0 : W64) ||| bit ((minD d).fin.length : Int)) (minD d).fin 0 (minD d).fin.length, ([] ++ cpe (minD d) ((0 : Nat) : Int) (minD d).fin.length ++ ((List.range (minD d).L.toNat).map fun (x : Nat) => (((minD d).fin.length : Int), (x : Int), stepQ (minD d) (minD d).s x))) ++ shcE (minD d).fin (minD d).s ([] ++ cpe (minD d) ((0 : Nat) : Int) (minD d).fin.length ++ ((List.range (minD d).L.toNat).map fun (x : Nat) => (((minD d).fin.length : Int), (x : Int), stepQ (minD d) (minD d).s x)))⟩ : Nfa) = staN (minD d) := by
     have hz : (0 : W64) ||| bit ((minD d).fin.length : Int) = bit ((minD d).fin.length : Int) := BitVec.zero_or
     unfold staN staE st0
     rw [hz, List.nil_append]; rfl
    rw [← e]
    exact hw) ?_
   have hln := staE_len hM hS
   refine AK.callN 5 rfl co68 rfl (fun w Fs hw hh hfr hal => a_lang w (Fs 5) nb (staN (minD d)) (sta_wn hM hS) ⟨hln.1, by have := hln.2; show (staE (minD d)).length ≤ _; omega⟩ (hT.at hw) (fun hb => by rcases hal 5 0 hb with h | h; exact absurd hT.lt (Nat.not_lt.2 h); exact h) (hh.at_ 5 _ rfl)) trivial rfl ?_
   rintro r A o ⟨d9, e, vF9, vN9, rs9, n2, hL9, hrs9, sF9, sN9, rfl, rfl, rfl⟩
   refine .v (.extract rfl rfl) (.v (.extract rfl rfl) ?_)
   refine AK.storeBox 0 (us := [.int .i64 d9.L, .int .i64 d9.s, vF9, vN9]) (cs' := [.int .i64 d9.L, .int .i64 d9.s, vF9, vN9]) rfl sz32 rfl rfl rfl rfl oneP (leb rfl) rfl trivial ?_
   refine .as rfl (.nt hK21 (.ret ?_))
   refine AK.retG [.cell 2 32, .tmp 3] rfl (.cons (.cell ag32 rfl bsp rfl rfl) (.cons (.tmp rfl) (.nil))) (fun w hw => ⟨_, _, ?_, rfl, Ret.of (hw.pick [6, 7, 8] (by decide) rfl rfl)⟩)
   exact ⟨d9, e, vF9, vN9, rs9, lng_sta hv hS hL9, hrs9, sF9, sN9, rfl, rfl⟩

set_option maxHeartbeats 4000000 in
theorem a_sta3 (w : World) (v : Value) (d : Dfa) (h : RdD (fun _ => False) w v d) (hv : VD d) (hT : TbA w) (hS : 64 < (minD d).fin.length + 1) : CallS Tryz.prog 22 [v] w (fun r o => ∃ (d9 : Dfa) (e : Int) (vF vN : Value) (rs : List Value), LngOk d.L (fun l => StarL (okL d) l) d9 e ∧ rs.length = d9.nx.length ∧ IsSl vF ∧ IsSl vN ∧ r = .tuple #[.agg #[.int .i64 d9.L, .int .i64 d9.s, vF, vN], .int .i64 e] ∧ o = dfaO 4 3 67 vF vN rs d9) := by
 have h0 := h
 obtain ⟨vF, vN, rfl, hF, hN⟩ := h
 have hF0 := hF
 have hN0 := hN
 obtain ⟨rs, hrl, hNr, hNi⟩ := hN
 have sF := hF.sl
 have sN := hNr.sl
 have hmf := hF.le
 have hmn := hNr.le
 unfold RdL at hF
 have hM := min_vd hv
 have hMs := hM.s
 have hMn := hM.n
 have hMx := hM.nx
 have hdL := hv.L
 have hLa : (minD d).L = d.L := rfl
 have hrw := hM.row (minD d).s.toNat (by omega)
 refine spec_of Tryz.func22 rfl (leb rfl) ?_
 refine .sr fun _ hK1 => ?_
 refine AK.box_ (E := 32) (cs := [.int .i64 d.L, .int .i64 d.s, vF, vN]) rfl rfl rfl trivial rfl (fun bx1 => ?_)
 refine AK.alloc el32 rfl rfl trivial rfl (fun bx2 => ?_)
 refine .as rfl (.nt hK1 ?_)
 refine .sr fun _ hK2 => ?_
 refine .v (.loadBoxG ag32 rfl bsp rfl rfl) ?_
 refine AK.call co69 rfl (fun w hw => a_minimal w _ d (h0.at hw) hv) trivial rfl ?_
 rintro r o ⟨mF, mN, mrs, hmrs, smF, smN, rfl, rfl⟩
 conv => enter [2, 2]; dsimp only [dfaO, List.set_cons_zero, List.set_cons_succ, List.cons_append, List.nil_append]
 refine .mv rfl (.v (.extract rfl rfl) (.v (.extract rfl rfl) ?_))
 refine AK.alloc el32 rfl rfl trivial rfl (fun bx4 => ?_)
 refine AK.storeBox 5 (us := [.int .i64 (minD d).L, .int .i64 (minD d).s, mF, mN]) (cs' := [.int .i64 (minD d).L, .int .i64 (minD d).s, mF, mN]) rfl sz32 rfl rfl rfl rfl oneP (leb rfl) rfl trivial ?_
 refine .as rfl (.nt hK2 ?_)
 refine .seq fun _ hK3 => ?_
 refine .sr fun _ hK4 => ?_
 refine .mv rfl (.v (.neq rfl rfl) (.nt hK4 ?_))
 refine AK.cond_f rfl (decide_eq_false (by omega)) ?_
 refine .skip ?_
 refine AK.then_ (hK3 _ ?_)
 refine .sr fun _ hK5 => ?_
 refine .v (.fieldAddr fd32_2 rfl) (.v (.loadBox on29 rfl bsp rfl) ?_)
 refine .v (.lenR sl29 rfl (by first | exact rdp | exact (RdS.big 4 (minD d).s.toNat rfl (matG_get hmrs (by omega))) | exact (RdS.big 3 (minD d).s.toNat rfl (matG_get hmrs (by omega))))) ?_
 refine .as rfl (.nt hK5 ?_)
 refine .sr fun _ hK6 => ?_
 refine .v (.fieldAddr fd32_0 rfl) (.v (.loadBox on3 rfl bsp rfl) (.mv rfl ?_))
 refine .v (.addE ((((minD d).fin.length + 1 : Nat) : Int)) rfl rfl (by omega) (by omega)) ?_
 refine AK.call co63 rfl (fun w hw => a_begin3 w d.L (((minD d).fin.length + 1 : Nat) : Int) (by omega)) trivial rfl ?_
 rintro r o ⟨rfl, rfl⟩
 conv => enter [2, 2]; dsimp only [dfaO, List.set_cons_zero, List.set_cons_succ, List.cons_append, List.nil_append]
 refine .mv rfl (.v (.extract rfl rfl) (.v (.extract rfl rfl) (.as rfl (.as rfl (.nt hK6 ?_)))))
 refine .seq fun _ hK7 => ?_
 refine .sr fun _ hK8 => ?_
 refine .mv rfl (.v (.neq rfl rfl) (.nt hK8 ?_))
 refine AK.cond_t rfl (decide_eq_true (by omega)) ?_
 refine .sr fun _ hK9 => ?_
 refine .v (.build (parts := []) (cs := #[.int .i64 0, .int .i64 0, .slice none 0 0, .slice none 0 0]) rfl (by kernel_rfl)) ?_
 refine .mv rfl ?_
 refine AK.storeBox 1 (us := [.int .i64 0, .int .i64 0, .slice none 0 0, .slice none 0 0]) (cs' := [.int .i64 0, .int .i64 0, .slice none 0 0, .slice none 0 0]) rfl sz32 rfl rfl rfl rfl oneP (leb rfl) rfl trivial ?_
 refine .as rfl (.nt hK9 (.ret (.then_ret ?_)))
 refine AK.own' (dfaO 4 3 67 (.slice none 0 0) (.slice none 0 0) [] nilD ++ [box bx2 32 4 [.int .i64 0, .int .i64 0, .slice none 0 0, .slice none 0 0]]) (fun w hw => by have h1 := (((hw.pick [1] (by decide) rfl rfl).ghost 4 1).ghost 67 1).ghostG (f := Value.int .i64) 3; exact h1.pick [1, 2, 3, 0] (by decide) rfl rfl) ?_
 refine AK.retG [.cell 2 32, .tmp 3] rfl (.cons (.cell ag32 rfl bsp rfl rfl) (.cons (.tmp rfl) (.nil))) (fun w hw => ⟨_, _, ?_, rfl, Ret.of (hw.pick [0, 1, 2] (by decide) rfl rfl)⟩)
 exact ⟨nilD, 3, _, _, [], .inl ⟨rfl, rfl⟩, rfl, nilSl, nilSl, rfl, rfl⟩

end Go.Proofs.YtbibnpdnmmgacaaGreatDoor

namespace Go.Sx
/-! ### what the references say of an expression -/
def ok0E (e : Ex) : Bool := decide (1 ≤ e.op ∧ e.op ≤ 8)
def ok1E (e : Ex) : Bool := if e.op = 1 ∨ e.op = 2 ∨ e.op = 3 then decide (e.kids.length = 0) else if e.op = 7 ∨ e.op = 8 then decide (e.kids.length = 1) else ok0E e && decide (2 ≤ e.kids.length)
def ok2E (n : Int) (e : Ex) : Bool := if e.op = 3 then ok1E e && (decide (0 ≤ e.lt) && decide (e.lt < n)) else ok1E e && decide (e.lt = 0)
theorem wf_ok2 (n : Int) (e : Ex) : wfE n e = (ok2E n e && e.kids.all (wfE n)) := by
  obtain ⟨op, lt, ks⟩ := e
  rw [wfE_mk]
  have hz : ks.length = 0 → ks.all (wfE n) = true := fun h => by rw [List.eq_nil_of_length_eq_zero h]; rfl
  unfold ok2E ok1E ok0E
  simp only [Ex.op, Ex.lt, Ex.kids]
  generalize ks.all (wfE n) = b at *
  by_cases h3 : op = 3
  · subst h3
    by_cases hm : ks.length = 0
    · simp [hm, hz hm]; rfl
    · simp [hm]
  · simp only [h3, if_false, or_false]
    by_cases hl : lt = 0
    · simp only [hl, ne_eq, not_true, if_false, decide_true, Bool.and_true]
      by_cases h12 : op = 1 ∨ op = 2
      · simp only [h12, if_true]
        by_cases hm : ks.length = 0
        · simp [hm, hz hm]
        · simp [hm]
      · simp only [h12, if_false]
        by_cases h78 : op = 7 ∨ op = 8
        · have : ¬ (op = 4 ∨ op = 5 ∨ op = 6) := by omega
          simp only [h78, this, if_true, if_false]; rfl
        · simp only [h78, if_false]
          by_cases h4 : op = 4 ∨ op = 5 ∨ op = 6
          · have : 1 ≤ op ∧ op ≤ 8 := by omega
            simp [h4, this]; rfl
          · have : ¬ (1 ≤ op ∧ op ≤ 8) := by omega
            simp [h4, this]
    · simp [hl]
theorem all_take_nextX {p : Ex → Bool} {ks : List Ex} {k : Nat} (h : k < ks.length) : (ks.take (k + 1)).all p = ((ks.take k).all p && p (ks.getD k default)) := by
  rw [take_snocD default ks k h, List.all_append]; simp
theorem all_take_falseX {p : Ex → Bool} {ks : List Ex} {k : Nat} (h : (ks.take k).all p = false) : ks.all p = false := by
  rw [← List.take_append_drop k ks, List.all_append, h]; rfl
theorem szL_take_le (ks : List Ex) (k : Nat) : szL (ks.take k) ≤ szL ks := szL_sub (List.take_sublist k ks)
theorem szL_take_next {ks : List Ex} {k : Nat} (h : k < ks.length) : szL (ks.take (k + 1)) = szL (ks.take k) + szE (ks.getD k default) := by
  rw [take_snocD default ks k h, szL_app, szL_cons, szL_nil]; rfl
end Go.Sx

namespace Go.Proofs.YtbibnpdnmmgacaaGreatDoor
open Go.Sx Go.RowKit
theorem s_maylet (w : World) (n : Int) : CallS Tryz.prog 35 [.int .i64 n] w (fun r o => r = .bool (decide (1 ≤ n ∧ n ≤ 6)) ∧ o = []) := by
 refine spec_of Tryz.func35 rfl (leb rfl) ?_
 refine .sr fun _ hK1 => ?_
 refine .as rfl (.nt hK1 ?_)
 refine .sr fun _ hK2 => ?_
 refine .mv rfl (.v (.geq rfl rfl) (.mv rfl ?_))
 refine AK.splitB (g := 5) rfl (fun hg_1_2 => ?_) (fun hg_1_2 => ?_)
 ·have hg_1_2' := hg_1_2
  try simp only [bs] at hg_1_2'
  refine AK.val _ (Yl.move rfl) ⟨_, rfl, gB hg_1_2⟩ rfl ?_
  refine AK.val _ (Yl.leq rfl rfl) ⟨_, rfl, gB hg_1_2⟩ rfl ?_
  refine .v (.pickT rfl (hg_1_2) rfl) (.as rfl (.nt hK2 (.ret ?_)))
  refine AK.ret1 rfl rfl (fun w hw => ⟨_, _, ?_, rfl, Ret.of (hw.pick [] (by decide) rfl rfl)⟩)
  refine ⟨congrArg Value.bool ?_, rfl⟩
  first | (simp_all; done) | (simp_all <;> omega)
 ·have hg_1_2' := hg_1_2
  try simp only [bs] at hg_1_2'
  refine AK.pass rfl rfl (hg_1_2) rfl ?_
  refine AK.pass rfl rfl (hg_1_2) rfl ?_
  refine .v (.pickF rfl (hg_1_2) rfl) (.as rfl (.nt hK2 (.ret ?_)))
  refine AK.ret1 rfl rfl (fun w hw => ⟨_, _, ?_, rfl, Ret.of (hw.pick [] (by decide) rfl rfl)⟩)
  refine ⟨congrArg Value.bool ?_, rfl⟩
  first | (simp_all; done) | (simp_all <;> omega)

def MeaS (e : Ex) : Prop := ∀ (w : World) (s : Value) (h : RdK (cellR (fun _ => False) w) s e.kids), CallS Tryz.prog 90 [.agg #[.int .i64 e.op, .int .i64 e.lt, s], .int .i64 400] w (fun r o => (∃ D : Int, r = .tuple #[.int .i64 ((min (szE e) 401 : Nat) : Int), .int .i64 D]) ∧ o = [])
set_option maxHeartbeats 1000000 in
theorem s_mea_step (e : Ex) (ih : ∀ i, i < e.kids.length → MeaS (e.kids.getD i default)) (w : World) (s : Value) (h : RdK (cellR (fun _ => False) w) s e.kids) : CallS Tryz.prog 90 [.agg #[.int .i64 e.op, .int .i64 e.lt, s], .int .i64 400] w (fun r o => (∃ D : Int, r = .tuple #[.int .i64 ((min (szE e) 401 : Nat) : Int), .int .i64 D]) ∧ o = []) := by
 obtain ⟨ss, hl, hx, hk⟩ := h.inv
 have hr := hx.rd
 have hm := hr.le
 refine spec_of Tryz.func90 rfl (leb rfl) ?_
 refine .sr fun _ hK1 => ?_
 refine AK.box_ (E := 24) (cs := [.int .i64 e.op, .int .i64 e.lt, s]) rfl rfl rfl trivial rfl (fun bx2 => ?_)
 refine .as rfl (.as rfl (.nt hK1 ?_))
 refine .sr fun _ hK2 => ?_
 refine .as rfl (.as rfl (.nt hK2 ?_))
 refine .seq fun _ hK3 => ?_
 refine .sr fun _ hK4 => ?_
 refine .as rfl (.nt hK4 (.block ?_))
 refine AK.loopK (X := Nat × Int) [(1, _), (2, _)] (fun x => [(6, .int .i64 ((min (1 + szL (e.kids.take x.1)) 401 : Nat) : Int)), (7, .int .i64 x.2), (8, .int .i64 (x.1 : Int))]) (fun x => [box bx2 24 3 [.int .i64 e.op, .int .i64 e.lt, s]]) (fun x => x.1 ≤ e.kids.length) (fun x => e.kids.length - x.1) ((0, 0)) slr ?_ ?_ ?_ ?_
 ·exact Nat.zero_le _
 ·exact .cons (slI rfl (by simp [szL_nil])) (slr)
 ·exact fun w hw => hw
 ·intro x hg0 _ hK5
  refine .seq fun _ hK6 => ?_
  refine .sr fun _ hK7 => ?_
  refine .mv rfl (.v (.fieldAddr fd24_2 rfl) (.v (.loadBox on22 rfl bsp rfl) (.v (.lenR sl22 rfl rdp) (.v (.lss rfl rfl) (.mv rfl ?_)))))
  refine AK.splitB (g := 16) rfl (fun hg_3_5 => ?_) (fun hg_3_5 => ?_)
  ·have hg_3_5' := hg_3_5
   try simp only [bs] at hg_3_5'
   refine AK.val _ (Yl.move rfl) ⟨_, rfl, gB hg_3_5⟩ rfl ?_
   refine AK.val _ (Yl.move rfl) ⟨_, rfl, gB hg_3_5⟩ rfl ?_
   refine AK.val _ (Yl.leq rfl rfl) ⟨_, rfl, gB hg_3_5⟩ rfl ?_
   refine .v (.pickT rfl (hg_3_5) rfl) (.nt hK7 ?_)
   refine AK.condD rfl (fun hc0 => ?_) (fun hc0 => ?_)
   ·have hkx : x.1 < e.kids.length := by have := hg_3_5; simp at this; omega
    have hlex : min (1 + szL (e.kids.take x.1)) 401 ≤ 400 := by have := hc0; omega
    have sk := (hk x.1 hkx).sl
    refine .skip ?_
    refine AK.then_ (hK6 _ ?_)
    refine .seq fun _ hK8 => ?_
    refine .block ?_
    refine .sr fun _ hK9 => ?_
    refine .v (.fieldAddr fd24_2 rfl) (.v (.loadBox on22 rfl bsp rfl) (.mv rfl ?_))
    first | refine .v (.iN sl22 rfl rfl) ?_ | refine .v (.iK sl22 rfl rfl) ?_
    refine .v (.loadE ag24 rfl rdp (by assumption) rfl (by omega)) ?_
    refine .mv rfl ?_
    refine AK.call co90 rfl (fun w hw => ih x.1 hkx w _ ((hk x.1 hkx).at hw)) trivial rfl ?_
    rintro r o ⟨⟨D, rfl⟩, rfl⟩
    refine .mv rfl (.v (.extract rfl rfl) (.v (.extract rfl rfl) (.as rfl (.as rfl (.nt hK9 ?_)))))
    refine AK.region ?_
    refine .mv rfl (.mv rfl ?_)
    refine .v (.add rfl rfl (by omega)) ?_
    refine .mv rfl ?_
    refine .v (.add rfl rfl (by omega)) ?_
    refine .v (.min rfl rfl) (.mv rfl (.mv rfl (.v (.max rfl rfl) (.as rfl (.as rfl (.nil (.block_normal ?_)))))))
    refine AK.then_ (hK8 _ ?_)
    refine AK.region ?_
    refine .mv rfl ?_
    refine .v (.add rfl rfl (by omega)) ?_
    refine .as rfl (.nil ?_)
    refine AK.then_ (hK5 _ _ ((x.1 + 1, max x.2 D)) (by dsimp only; omega) (by dsimp only; omega) (.cons (slI rfl (by dsimp only; rw [szL_take_next (by omega)]; omega)) (slr)) (fun w hw => hw.pick [0] (by decide) rfl rfl))
   ·refine .exit (.then_exit (.then_exit (.block_exit ?_)))
    refine AK.then_ (hK3 _ ?_)
    refine .sr fun _ hK10 => ?_
    refine .mv rfl (.mv rfl (.v (.addW rfl rfl) (.as rfl (.as rfl (.nt hK10 (.ret ?_))))))
    refine AK.ret2 rfl rfl rfl (fun w hw => ⟨_, _, ?_, rfl, Ret.of (hw.pick [] (by decide) rfl rfl)⟩)
    refine ⟨⟨IntKind.i64.wrap (x.2 + 1), ?_⟩, rfl⟩
    have hn : min (1 + szL (e.kids.take x.1)) 401 = min (szE e) 401 := by
     rw [szE_eq]
     have h1 := szL_take_le e.kids x.1
     by_cases hx : x.1 = e.kids.length
     ·rw [hx, List.take_length]
     ·have h2 : ¬ (min (1 + szL (e.kids.take x.1)) 401 ≤ 400) := by simp_all; omega
      omega
    rw [hn]
  ·have hg_3_5' := hg_3_5
   try simp only [bs] at hg_3_5'
   refine AK.pass rfl rfl (hg_3_5) rfl ?_
   refine AK.pass rfl rfl (hg_3_5) rfl ?_
   refine AK.pass rfl rfl (hg_3_5) rfl ?_
   refine .v (.pickF rfl (hg_3_5) rfl) (.nt hK7 ?_)
   refine AK.cond_f rfl (rfl) ?_
   refine .exit (.then_exit (.then_exit (.block_exit ?_)))
   refine AK.then_ (hK3 _ ?_)
   refine .sr fun _ hK11 => ?_
   refine .mv rfl (.mv rfl (.v (.addW rfl rfl) (.as rfl (.as rfl (.nt hK11 (.ret ?_))))))
   refine AK.ret2 rfl rfl rfl (fun w hw => ⟨_, _, ?_, rfl, Ret.of (hw.pick [] (by decide) rfl rfl)⟩)
   refine ⟨⟨IntKind.i64.wrap (x.2 + 1), ?_⟩, rfl⟩
   have hn : min (1 + szL (e.kids.take x.1)) 401 = min (szE e) 401 := by
    rw [szE_eq]
    have h1 := szL_take_le e.kids x.1
    by_cases hx : x.1 = e.kids.length
    ·rw [hx, List.take_length]
    ·have h2 : ¬ (min (1 + szL (e.kids.take x.1)) 401 ≤ 400) := by simp_all; omega
     omega
   rw [hn]

theorem s_mea (e : Ex) : MeaS e := Ex.ind (P := MeaS) (fun e ih w s h => s_mea_step e ih w s h) e
def ShpS (n : Int) (e : Ex) : Prop := ∀ (w : World) (s : Value) (h : RdK (cellR (fun _ => False) w) s e.kids), CallS Tryz.prog 89 [.agg #[.int .i64 e.op, .int .i64 e.lt, s], .int .i64 n] w (fun r o => r = .bool (wfE n e) ∧ o = [])
set_option maxHeartbeats 2000000 in
theorem s_shp_step (n : Int) (e : Ex) (ih : ∀ i, i < e.kids.length → ShpS n (e.kids.getD i default)) (w : World) (s : Value) (h : RdK (cellR (fun _ => False) w) s e.kids) : CallS Tryz.prog 89 [.agg #[.int .i64 e.op, .int .i64 e.lt, s], .int .i64 n] w (fun r o => r = .bool (wfE n e) ∧ o = []) := by
 obtain ⟨ss, hl, hx, hk⟩ := h.inv
 have hr := hx.rd
 have hm := hr.le
 refine spec_of Tryz.func89 rfl (leb rfl) ?_
 refine .sr fun _ hK1 => ?_
 refine AK.box_ (E := 24) (cs := [.int .i64 e.op, .int .i64 e.lt, s]) rfl rfl rfl trivial rfl (fun bx2 => ?_)
 refine .as rfl (.nt hK1 ?_)
 refine .sr fun _ hK2 => ?_
 refine .v (.fieldAddr fd24_2 rfl) (.v (.loadBox on22 rfl bsp rfl) (.v (.lenR sl22 rfl rdp) (.as rfl (.nt hK2 ?_))))
 refine AK.seqJ (X := Bool) [(1, _), (2, _), (5, _)] (fun u => [(6, .bool u)]) (fun u => [box bx2 24 3 [.int .i64 e.op, .int .i64 e.lt, s]]) (fun u => u = ok0E e) slr (fun _ hK3 => ?_) (fun u hg => ?_)
 ·refine AK.region ?_
  refine .v (.fieldAddr fd24_0 rfl) (.v (.loadBox on3 rfl bsp rfl) (.v (.geq rfl rfl) (.mv rfl ?_)))
  refine AK.splitB (g := 14) rfl (fun hg_2_3 => ?_) (fun hg_2_3 => ?_)
  ·have hg_2_3' := hg_2_3
   try simp only [bs] at hg_2_3'
   refine AK.val _ (Yl.fieldAddr fd24_0 rfl) ⟨_, rfl, gB hg_2_3⟩ rfl ?_
   refine AK.val _ (Yl.loadBox on3 rfl bsp rfl) ⟨_, rfl, gB hg_2_3⟩ rfl ?_
   refine AK.val _ (Yl.leq rfl rfl) ⟨_, rfl, gB hg_2_3⟩ rfl ?_
   refine .v (.pickT rfl (hg_2_3) rfl) (.as rfl (.nil ?_))
   refine AK.then_ (hK3 _ _ (ok0E e) rfl (.cons (slB rfl (by first | (simp_all [ok0E, ok1E, ok2E]; done) | (simp_all [ok0E, ok1E, ok2E] <;> omega) | grind [ok0E, ok1E, ok2E])) (slr)) (fun w hw => hw))
  ·have hg_2_3' := hg_2_3
   try simp only [bs] at hg_2_3'
   refine AK.pass rfl rfl (hg_2_3) rfl ?_
   refine AK.pass rfl rfl (hg_2_3) rfl ?_
   refine AK.pass rfl rfl (hg_2_3) rfl ?_
   refine .v (.pickF rfl (hg_2_3) rfl) (.as rfl (.nil ?_))
   refine AK.then_ (hK3 _ _ (ok0E e) rfl (.cons (slB rfl (by first | (simp_all [ok0E, ok1E, ok2E]; done) | (simp_all [ok0E, ok1E, ok2E] <;> omega) | grind [ok0E, ok1E, ok2E])) (slr)) (fun w hw => hw))
 ·subst hg
  refine AK.seqJ (X := Bool) [(1, _), (2, _), (5, _)] (fun u => [(6, .bool u)]) (fun u => [box bx2 24 3 [.int .i64 e.op, .int .i64 e.lt, s]]) (fun u => u = ok1E e) slr (fun _ hK4 => ?_) (fun u hg => ?_)
  ·refine .sr fun _ hK5 => ?_
   refine .v (.fieldAddr fd24_0 rfl) (.v (.loadBox on3 rfl bsp rfl) (.nt hK5 (.block ?_)))
   refine .seq fun _ hK6 => ?_
   refine .sr fun _ hK7 => ?_
   refine .v (.eql rfl rfl) (.as rfl (.nt hK7 ?_))
   refine AK.condD rfl (fun hc0 => ?_) (fun hc0 => ?_)
   ·refine .skip ?_
    refine AK.then_ (hK6 _ ?_)
    refine AK.cond_t rfl (decide_eq_true hc0) ?_
    refine AK.region ?_
    refine .mv rfl (.v (.eql rfl rfl) (.as rfl (.nil (.block_normal ?_))))
    refine AK.then_ (hK4 _ _ (ok1E e) rfl (.cons (slB rfl (by first | (simp_all [ok0E, ok1E, ok2E]; done) | (simp_all [ok0E, ok1E, ok2E] <;> omega) | grind [ok0E, ok1E, ok2E])) (slr)) (fun w hw => hw))
   ·refine .sr fun _ hK8 => ?_
    refine .v (.eql rfl rfl) (.as rfl (.nt hK8 ?_))
    refine AK.condD rfl (fun hc1 => ?_) (fun hc1 => ?_)
    ·refine .skip ?_
     refine AK.then_ (hK6 _ ?_)
     refine AK.cond_t rfl (decide_eq_true hc1) ?_
     refine AK.region ?_
     refine .mv rfl (.v (.eql rfl rfl) (.as rfl (.nil (.block_normal ?_))))
     refine AK.then_ (hK4 _ _ (ok1E e) rfl (.cons (slB rfl (by first | (simp_all [ok0E, ok1E, ok2E]; done) | (simp_all [ok0E, ok1E, ok2E] <;> omega) | grind [ok0E, ok1E, ok2E])) (slr)) (fun w hw => hw))
    ·refine AK.region ?_
     refine .v (.eql rfl rfl) (.as rfl (.nt hK6 ?_))
     refine AK.condD rfl (fun hc2 => ?_) (fun hc2 => ?_)
     ·refine AK.region ?_
      refine .mv rfl (.v (.eql rfl rfl) (.as rfl (.nil (.block_normal ?_))))
      refine AK.then_ (hK4 _ _ (ok1E e) rfl (.cons (slB rfl (by first | (simp_all [ok0E, ok1E, ok2E]; done) | (simp_all [ok0E, ok1E, ok2E] <;> omega) | grind [ok0E, ok1E, ok2E])) (slr)) (fun w hw => hw))
     ·refine .seq fun _ hK9 => ?_
      refine .sr fun _ hK10 => ?_
      refine .v (.eql rfl rfl) (.as rfl (.nt hK10 ?_))
      refine AK.condD rfl (fun hc3 => ?_) (fun hc3 => ?_)
      ·refine .skip ?_
       refine AK.then_ (hK9 _ ?_)
       refine AK.cond_t rfl (decide_eq_true hc3) ?_
       refine AK.region ?_
       refine .mv rfl (.v (.eql rfl rfl) (.as rfl (.nil (.block_normal ?_))))
       refine AK.then_ (hK4 _ _ (ok1E e) rfl (.cons (slB rfl (by first | (simp_all [ok0E, ok1E, ok2E]; done) | (simp_all [ok0E, ok1E, ok2E] <;> omega) | grind [ok0E, ok1E, ok2E])) (slr)) (fun w hw => hw))
      ·refine AK.region ?_
       refine .v (.eql rfl rfl) (.as rfl (.nt hK9 ?_))
       refine AK.condD rfl (fun hc4 => ?_) (fun hc4 => ?_)
       ·refine AK.region ?_
        refine .mv rfl (.v (.eql rfl rfl) (.as rfl (.nil (.block_normal ?_))))
        refine AK.then_ (hK4 _ _ (ok1E e) rfl (.cons (slB rfl (by first | (simp_all [ok0E, ok1E, ok2E]; done) | (simp_all [ok0E, ok1E, ok2E] <;> omega) | grind [ok0E, ok1E, ok2E])) (slr)) (fun w hw => hw))
       ·refine AK.region ?_
        refine .mv rfl (.mv rfl ?_)
        refine AK.splitB (g := 22) rfl (fun hg_4_1 => ?_) (fun hg_4_1 => ?_)
        ·have hg_4_1' := hg_4_1
         try simp only [bs] at hg_4_1'
         refine AK.val _ (Yl.move rfl) ⟨_, rfl, gB hg_4_1⟩ rfl ?_
         refine AK.val _ (Yl.geq rfl rfl) ⟨_, rfl, gB hg_4_1⟩ rfl ?_
         refine .v (.pickT rfl (hg_4_1) rfl) (.as rfl (.nil (.block_normal ?_)))
         refine AK.then_ (hK4 _ _ (ok1E e) rfl (.cons (slB rfl (by first | (simp_all [ok0E, ok1E, ok2E]; done) | (simp_all [ok0E, ok1E, ok2E] <;> omega) | grind [ok0E, ok1E, ok2E])) (slr)) (fun w hw => hw))
        ·have hg_4_1' := hg_4_1
         try simp only [bs] at hg_4_1'
         refine AK.pass rfl rfl (hg_4_1) rfl ?_
         refine AK.pass rfl rfl (hg_4_1) rfl ?_
         refine .v (.pickF rfl (hg_4_1) rfl) (.as rfl (.nil (.block_normal ?_)))
         refine AK.then_ (hK4 _ _ (ok1E e) rfl (.cons (slB rfl (by first | (simp_all [ok0E, ok1E, ok2E]; done) | (simp_all [ok0E, ok1E, ok2E] <;> omega) | grind [ok0E, ok1E, ok2E])) (slr)) (fun w hw => hw))
  ·subst hg
   refine AK.seqJ (X := Bool) [(1, _), (2, _), (5, _)] (fun u => [(6, .bool u)]) (fun u => [box bx2 24 3 [.int .i64 e.op, .int .i64 e.lt, s]]) (fun u => u = ok2E n e) slr (fun _ hK11 => ?_) (fun u hg => ?_)
   ·refine .sr fun _ hK12 => ?_
    refine .v (.fieldAddr fd24_0 rfl) (.v (.loadBox on3 rfl bsp rfl) (.v (.eql rfl rfl) (.nt hK12 ?_)))
    refine AK.condD rfl (fun hc5 => ?_) (fun hc5 => ?_)
    ·refine AK.region ?_
     refine .mv rfl (.mv rfl ?_)
     refine AK.splitB (g := 41) rfl (fun hg_13_1 => ?_) (fun hg_13_1 => ?_)
     ·have hg_13_1' := hg_13_1
      try simp only [bs] at hg_13_1'
      refine AK.val _ (Yl.fieldAddr fd24_1 rfl) ⟨_, rfl, gB hg_13_1⟩ rfl ?_
      refine AK.val _ (Yl.loadBox on3 rfl bsp rfl) ⟨_, rfl, gB hg_13_1⟩ rfl ?_
      refine AK.val _ (Yl.geq rfl rfl) ⟨_, rfl, gB hg_13_1⟩ rfl ?_
      refine .v (.pickT rfl (hg_13_1) rfl) (.mv rfl ?_)
      refine AK.splitB (g := 46) rfl (fun hg_13_6 => ?_) (fun hg_13_6 => ?_)
      ·have hg_13_6' := hg_13_6
       try simp only [bs] at hg_13_6'
       refine AK.val _ (Yl.fieldAddr fd24_1 rfl) ⟨_, rfl, gB hg_13_6⟩ rfl ?_
       refine AK.val _ (Yl.loadBox on3 rfl bsp rfl) ⟨_, rfl, gB hg_13_6⟩ rfl ?_
       refine AK.val _ (Yl.move rfl) ⟨_, rfl, gB hg_13_6⟩ rfl ?_
       refine AK.val _ (Yl.lss rfl rfl) ⟨_, rfl, gB hg_13_6⟩ rfl ?_
       refine .v (.pickT rfl (hg_13_6) rfl) (.as rfl (.nil ?_))
       refine AK.then_ (hK11 _ _ (ok2E n e) rfl (.cons (slB rfl (by first | (simp_all [ok0E, ok1E, ok2E]; done) | (simp_all [ok0E, ok1E, ok2E] <;> omega) | grind [ok0E, ok1E, ok2E])) (slr)) (fun w hw => hw))
      ·have hg_13_6' := hg_13_6
       try simp only [bs] at hg_13_6'
       refine AK.pass rfl rfl (hg_13_6) rfl ?_
       refine AK.pass rfl rfl (hg_13_6) rfl ?_
       refine AK.pass rfl rfl (hg_13_6) rfl ?_
       refine AK.pass rfl rfl (hg_13_6) rfl ?_
       refine .v (.pickF rfl (hg_13_6) rfl) (.as rfl (.nil ?_))
       refine AK.then_ (hK11 _ _ (ok2E n e) rfl (.cons (slB rfl (by first | (simp_all [ok0E, ok1E, ok2E]; done) | (simp_all [ok0E, ok1E, ok2E] <;> omega) | grind [ok0E, ok1E, ok2E])) (slr)) (fun w hw => hw))
     ·have hg_13_1' := hg_13_1
      try simp only [bs] at hg_13_1'
      refine AK.pass rfl rfl (hg_13_1) rfl ?_
      refine AK.pass rfl rfl (hg_13_1) rfl ?_
      refine AK.pass rfl rfl (hg_13_1) rfl ?_
      refine .v (.pickF rfl (hg_13_1) rfl) (.mv rfl ?_)
      refine AK.pass rfl rfl rfl rfl ?_
      refine AK.pass rfl rfl rfl rfl ?_
      refine AK.pass rfl rfl rfl rfl ?_
      refine AK.pass rfl rfl rfl rfl ?_
      refine .v (.pickF rfl (rfl) rfl) (.as rfl (.nil ?_))
      refine AK.then_ (hK11 _ _ (ok2E n e) rfl (.cons (slB rfl (by first | (simp_all [ok0E, ok1E, ok2E]; done) | (simp_all [ok0E, ok1E, ok2E] <;> omega) | grind [ok0E, ok1E, ok2E])) (slr)) (fun w hw => hw))
    ·refine AK.region ?_
     refine .mv rfl (.mv rfl ?_)
     refine AK.splitB (g := 53) rfl (fun hg_14_1 => ?_) (fun hg_14_1 => ?_)
     ·have hg_14_1' := hg_14_1
      try simp only [bs] at hg_14_1'
      refine AK.val _ (Yl.fieldAddr fd24_1 rfl) ⟨_, rfl, gB hg_14_1⟩ rfl ?_
      refine AK.val _ (Yl.loadBox on3 rfl bsp rfl) ⟨_, rfl, gB hg_14_1⟩ rfl ?_
      refine AK.val _ (Yl.eql rfl rfl) ⟨_, rfl, gB hg_14_1⟩ rfl ?_
      refine .v (.pickT rfl (hg_14_1) rfl) (.as rfl (.nil ?_))
      refine AK.then_ (hK11 _ _ (ok2E n e) rfl (.cons (slB rfl (by first | (simp_all [ok0E, ok1E, ok2E]; done) | (simp_all [ok0E, ok1E, ok2E] <;> omega) | grind [ok0E, ok1E, ok2E])) (slr)) (fun w hw => hw))
     ·have hg_14_1' := hg_14_1
      try simp only [bs] at hg_14_1'
      refine AK.pass rfl rfl (hg_14_1) rfl ?_
      refine AK.pass rfl rfl (hg_14_1) rfl ?_
      refine AK.pass rfl rfl (hg_14_1) rfl ?_
      refine .v (.pickF rfl (hg_14_1) rfl) (.as rfl (.nil ?_))
      refine AK.then_ (hK11 _ _ (ok2E n e) rfl (.cons (slB rfl (by first | (simp_all [ok0E, ok1E, ok2E]; done) | (simp_all [ok0E, ok1E, ok2E] <;> omega) | grind [ok0E, ok1E, ok2E])) (slr)) (fun w hw => hw))
   ·subst hg
    refine .seq fun _ hK13 => ?_
    refine .sr fun _ hK14 => ?_
    refine .as rfl (.nt hK14 (.block ?_))
    refine AK.loopK (X := Nat × Bool) [(1, _), (2, _), (5, _)] (fun x => [(6, .bool x.2), (7, .int .i64 (x.1 : Int))]) (fun x => [box bx2 24 3 [.int .i64 e.op, .int .i64 e.lt, s]]) (fun x => x.1 ≤ e.kids.length ∧ x.2 = (ok2E n e && (e.kids.take x.1).all (wfE n))) (fun x => e.kids.length - x.1) ((0, ok2E n e)) slr ?_ ?_ ?_ ?_
    ·exact ⟨Nat.zero_le _, by simp⟩
    ·exact slr
    ·exact fun w hw => hw
    ·intro x hg0 _ hK15
     refine .seq fun _ hK16 => ?_
     refine .sr fun _ hK17 => ?_
     refine .mv rfl (.mv rfl (.v (.lss rfl rfl) (.mv rfl ?_)))
     refine AK.splitB (g := 61) rfl (fun hg_16_3 => ?_) (fun hg_16_3 => ?_)
     ·have hg_16_3' := hg_16_3
      try simp only [bs] at hg_16_3'
      refine AK.val _ (Yl.move rfl) ⟨_, rfl, gB hg_16_3⟩ rfl ?_
      refine .v (.pickT rfl (hg_16_3) rfl) (.nt hK17 ?_)
      refine AK.cond rfl (fun hc6 => ?_) (fun hc6 => ?_)
      ·try simp only [bs] at hc6
       have hkx : x.1 < e.kids.length := by have := hg_16_3; simp at this; omega
       have hxt : x.2 = true := hc6
       have sk := (hk x.1 hkx).sl
       refine .skip ?_
       refine AK.then_ (hK16 _ ?_)
       refine .seq fun _ hK18 => ?_
       refine .block ?_
       refine AK.region ?_
       refine .v (.fieldAddr fd24_2 rfl) (.v (.loadBox on22 rfl bsp rfl) (.mv rfl ?_))
       first | refine .v (.iN sl22 rfl rfl) ?_ | refine .v (.iK sl22 rfl rfl) ?_
       refine .v (.loadE ag24 rfl rdp (by assumption) rfl (by omega)) ?_
       refine .mv rfl ?_
       refine AK.call co89 rfl (fun w hw => ih x.1 hkx w _ ((hk x.1 hkx).at hw)) trivial rfl ?_
       rintro r o ⟨rfl, rfl⟩
       refine .as rfl (.nil (.block_normal ?_))
       refine AK.then_ (hK18 _ ?_)
       refine AK.region ?_
       refine .mv rfl ?_
       refine .v (.add rfl rfl (by omega)) ?_
       refine .as rfl (.nil ?_)
       refine AK.then_ (hK15 _ _ ((x.1 + 1, wfE n (e.kids.getD x.1 default))) ⟨by dsimp only; omega, by dsimp only; rw [all_take_nextX hkx, ← Bool.and_assoc, ← hg0.2, hxt, Bool.true_and]⟩ (by dsimp only; omega) (slr) (fun w hw => hw.pick [0] (by decide) rfl rfl))
      ·try simp only [bs] at hc6
       refine .exit (.then_exit (.then_exit (.block_exit ?_)))
       refine AK.then_ (hK13 _ ?_)
       refine .sr fun _ hK19 => ?_
       refine .mv rfl (.as rfl (.nt hK19 (.ret ?_)))
       refine AK.ret1 rfl rfl (fun w hw => ⟨_, _, ?_, rfl, Ret.of (hw.pick [] (by decide) rfl rfl)⟩)
       refine ⟨congrArg Value.bool ?_, rfl⟩
       rw [wf_ok2, hg0.2]
       by_cases hx : x.1 = e.kids.length
       ·rw [hx, List.take_length]
       ·have h2 : x.2 = false := by first | (simp_all; done) | (simp_all; omega)
        rw [h2] at hg0
        rw [← hg0.2]
        cases h3 : ok2E n e with
        | false => rfl
        | true =>
         have h4 : (e.kids.take x.1).all (wfE n) = false := by rw [h3, Bool.true_and] at hg0; exact hg0.2.symm
         rw [all_take_falseX h4]; rfl
     ·have hg_16_3' := hg_16_3
      try simp only [bs] at hg_16_3'
      refine AK.pass rfl rfl (hg_16_3) rfl ?_
      refine .v (.pickF rfl (hg_16_3) rfl) (.nt hK17 ?_)
      refine AK.cond_f rfl (rfl) ?_
      refine .exit (.then_exit (.then_exit (.block_exit ?_)))
      refine AK.then_ (hK13 _ ?_)
      refine .sr fun _ hK20 => ?_
      refine .mv rfl (.as rfl (.nt hK20 (.ret ?_)))
      refine AK.ret1 rfl rfl (fun w hw => ⟨_, _, ?_, rfl, Ret.of (hw.pick [] (by decide) rfl rfl)⟩)
      refine ⟨congrArg Value.bool ?_, rfl⟩
      rw [wf_ok2, hg0.2]
      by_cases hx : x.1 = e.kids.length
      ·rw [hx, List.take_length]
      ·have h2 : x.2 = false := by first | (simp_all; done) | (simp_all; omega)
       rw [h2] at hg0
       rw [← hg0.2]
       cases h3 : ok2E n e with
       | false => rfl
       | true =>
        have h4 : (e.kids.take x.1).all (wfE n) = false := by rw [h3, Bool.true_and] at hg0; exact hg0.2.symm
        rw [all_take_falseX h4]; rfl

theorem s_shp (n : Int) (e : Ex) : ShpS n e := Ex.ind (P := ShpS n) (fun e ih w s h => s_shp_step n e ih w s h) e
theorem s_rwithin (w : World) (e : Ex) (s : Value) (h : RdK (cellR (fun _ => False) w) s e.kids) : CallS Tryz.prog 88 [.agg #[.int .i64 e.op, .int .i64 e.lt, s]] w (fun r o => (∃ b, r = .bool b) ∧ o = []) := by
 have sk := h.sl
 refine spec_of Tryz.func88 rfl (leb rfl) ?_
 refine .sr fun _ hK1 => ?_
 refine AK.box_ (E := 24) (cs := [.int .i64 e.op, .int .i64 e.lt, s]) rfl rfl rfl trivial rfl (fun bx1 => ?_)
 refine .as rfl (.nt hK1 ?_)
 refine .sr fun _ hK2 => ?_
 refine .v (.loadBoxG ag24 rfl bsp rfl rfl) ?_
 refine AK.call co90 rfl (fun w hw => s_mea e w s (h.at hw)) trivial rfl ?_
 rintro r o ⟨⟨D, rfl⟩, rfl⟩
 refine .mv rfl (.v (.extract rfl rfl) (.v (.extract rfl rfl) (.as rfl (.as rfl (.nt hK2 ?_)))))
 refine .sr fun _ hK3 => ?_
 refine .mv rfl (.v (.leq rfl rfl) (.mv rfl ?_))
 refine AK.splitB (g := 12) rfl (fun hg_2_2 => ?_) (fun hg_2_2 => ?_)
 ·have hg_2_2' := hg_2_2
  try simp only [bs] at hg_2_2'
  refine AK.val _ (Yl.move rfl) ⟨_, rfl, gB hg_2_2⟩ rfl ?_
  refine AK.val _ (Yl.leq rfl rfl) ⟨_, rfl, gB hg_2_2⟩ rfl ?_
  refine .v (.pickT rfl (hg_2_2) rfl) (.as rfl (.nt hK3 (.ret ?_)))
  refine AK.ret1 rfl rfl (fun w hw => ⟨_, _, ?_, rfl, Ret.of (hw.pick [] (by decide) rfl rfl)⟩)
  exact ⟨⟨_, rfl⟩, rfl⟩
 ·have hg_2_2' := hg_2_2
  try simp only [bs] at hg_2_2'
  refine AK.pass rfl rfl (hg_2_2) rfl ?_
  refine AK.pass rfl rfl (hg_2_2) rfl ?_
  refine .v (.pickF rfl (hg_2_2) rfl) (.as rfl (.nt hK3 (.ret ?_)))
  refine AK.ret1 rfl rfl (fun w hw => ⟨_, _, ?_, rfl, Ret.of (hw.pick [] (by decide) rfl rfl)⟩)
  exact ⟨⟨_, rfl⟩, rfl⟩

theorem s_rval (w : World) (e : Ex) (s : Value) (n : Int) (h : RdK (cellR (fun _ => False) w) s e.kids) : CallS Tryz.prog 33 [.agg #[.int .i64 e.op, .int .i64 e.lt, s], .int .i64 n] w (fun r o => (∃ er : Int, r = .int .i64 er ∧ (er = 0 → wfE n e = true)) ∧ o = []) := by
 have sk := h.sl
 refine spec_of Tryz.func33 rfl (leb rfl) ?_
 refine .sr fun _ hK1 => ?_
 refine AK.box_ (E := 24) (cs := [.int .i64 e.op, .int .i64 e.lt, s]) rfl rfl rfl trivial rfl (fun bx2 => ?_)
 refine .as rfl (.nt hK1 ?_)
 refine .seq fun _ hK2 => ?_
 refine .block ?_
 refine .sr fun _ hK3 => ?_
 refine .mv rfl ?_
 refine AK.call co35 rfl (fun w hw => s_maylet w n) trivial rfl ?_
 rintro r o ⟨rfl, rfl⟩
 refine .v (.not rfl) (.as rfl (.nt hK3 ?_))
 refine AK.condB rfl (fun hc0 => ?_) (fun hc0 => ?_)
 ·refine .sr fun _ hK4 => ?_
  refine .as rfl (.nt hK4 (.ret (.block_ret (.then_ret ?_))))
  refine AK.ret1 rfl rfl (fun w hw => ⟨_, _, ?_, rfl, Ret.of (hw.pick [] (by decide) rfl rfl)⟩)
  exact ⟨⟨_, rfl, fun h => absurd h (by decide)⟩, rfl⟩
 ·refine .sr fun _ hK5 => ?_
  refine .v (.loadBoxG ag24 rfl bsp rfl rfl) ?_
  refine AK.call co88 rfl (fun w hw => s_rwithin w e s (h.at hw)) trivial rfl ?_
  rintro r o ⟨⟨b, rfl⟩, rfl⟩
  refine .v (.not rfl) (.as rfl (.nt hK5 ?_))
  refine AK.condB rfl (fun hc1 => ?_) (fun hc1 => ?_)
  ·refine .sr fun _ hK6 => ?_
   refine .as rfl (.nt hK6 (.ret (.block_ret (.then_ret ?_))))
   refine AK.ret1 rfl rfl (fun w hw => ⟨_, _, ?_, rfl, Ret.of (hw.pick [] (by decide) rfl rfl)⟩)
   exact ⟨⟨_, rfl, fun h => absurd h (by decide)⟩, rfl⟩
  ·refine .sr fun _ hK7 => ?_
   refine .v (.loadBoxG ag24 rfl bsp rfl rfl) (.mv rfl ?_)
   refine AK.call co89 rfl (fun w hw => s_shp n e w s (h.at hw)) trivial rfl ?_
   rintro r o ⟨rfl, rfl⟩
   refine .v (.not rfl) (.as rfl (.nt hK7 ?_))
   refine AK.condB rfl (fun hc2 => ?_) (fun hc2 => ?_)
   ·refine .sr fun _ hK8 => ?_
    refine .as rfl (.nt hK8 (.ret (.block_ret (.then_ret ?_))))
    refine AK.ret1 rfl rfl (fun w hw => ⟨_, _, ?_, rfl, Ret.of (hw.pick [] (by decide) rfl rfl)⟩)
    exact ⟨⟨_, rfl, fun h => absurd h (by decide)⟩, rfl⟩
   ·refine .skip (.block_normal ?_)
    refine AK.then_ (hK2 _ ?_)
    refine .sr fun _ hK9 => ?_
    refine .as rfl (.nt hK9 (.ret ?_))
    refine AK.ret1 rfl rfl (fun w hw => ⟨_, _, ?_, rfl, Ret.of (hw.pick [] (by decide) rfl rfl)⟩)
    exact ⟨⟨_, rfl, fun _ => by simp_all⟩, rfl⟩

theorem s_rsize (w : World) (e : Ex) (s : Value) (h : RdK (cellR (fun _ => False) w) s e.kids) : CallS Tryz.prog 34 [.agg #[.int .i64 e.op, .int .i64 e.lt, s]] w (fun r o => r = .int .i64 ((min (szE e) 401 : Nat) : Int) ∧ o = []) := by
 have sk := h.sl
 refine spec_of Tryz.func34 rfl (leb rfl) ?_
 refine .sr fun _ hK1 => ?_
 refine AK.box_ (E := 24) (cs := [.int .i64 e.op, .int .i64 e.lt, s]) rfl rfl rfl trivial rfl (fun bx1 => ?_)
 refine .as rfl (.nt hK1 ?_)
 refine .sr fun _ hK2 => ?_
 refine .v (.loadBoxG ag24 rfl bsp rfl rfl) ?_
 refine AK.call co90 rfl (fun w hw => s_mea e w s (h.at hw)) trivial rfl ?_
 rintro r o ⟨⟨D, rfl⟩, rfl⟩
 refine .mv rfl (.v (.extract rfl rfl) (.v (.extract rfl rfl) (.as rfl (.as rfl (.nt hK2 ?_)))))
 refine .sr fun _ hK3 => ?_
 refine .mv rfl (.as rfl (.nt hK3 (.ret ?_)))
 refine AK.ret1 rfl rfl (fun w hw => ⟨_, _, ?_, rfl, Ret.of (hw.pick [] (by decide) rfl rfl)⟩)
 exact ⟨rfl, rfl⟩

theorem s_little (w : World) (e : Ex) (s : Value) (m : Nat) (hm : m ≤ 20) (h : RdK (cellR (fun _ => False) w) s e.kids) : CallS Tryz.prog 7 [.agg #[.int .i64 e.op, .int .i64 e.lt, s], .int .i64 (m : Int)] w (fun r o => (∃ b, r = .bool b ∧ (b = true → validE e 2 = 0 ∧ szE e ≤ m)) ∧ o = []) := by
 have sk := h.sl
 refine spec_of Tryz.func7 rfl (leb rfl) ?_
 refine .sr fun _ hK1 => ?_
 refine AK.box_ (E := 24) (cs := [.int .i64 e.op, .int .i64 e.lt, s]) rfl rfl rfl trivial rfl (fun bx2 => ?_)
 refine .as rfl (.nt hK1 ?_)
 refine .sr fun _ hK2 => ?_
 refine .v (.loadBoxG ag24 rfl bsp rfl rfl) ?_
 refine AK.call co33 rfl (fun w hw => s_rval w e s 2 (h.at hw)) trivial rfl ?_
 rintro r o ⟨⟨er, rfl, her⟩, rfl⟩
 refine .v (.eql rfl rfl) (.mv rfl ?_)
 refine AK.splitB (g := 8) rfl (fun hg_1_3 => ?_) (fun hg_1_3 => ?_)
 ·have hg_1_3' := hg_1_3
  try simp only [bs] at hg_1_3'
  refine AK.val _ (Yl.loadBoxG ag24 rfl bsp rfl rfl) ⟨_, rfl, gB hg_1_3⟩ rfl ?_
  refine AK.call co34 rfl (fun w hw => s_rsize w e s (h.at hw)) ⟨_, rfl, gB hg_1_3⟩ rfl ?_
  rintro r o ⟨rfl, rfl⟩
  refine AK.val _ (Yl.move rfl) ⟨_, rfl, gB hg_1_3⟩ rfl ?_
  refine AK.val _ (Yl.leq rfl rfl) ⟨_, rfl, gB hg_1_3⟩ rfl ?_
  refine .v (.pickT rfl (hg_1_3) rfl) (.as rfl (.nt hK2 (.ret ?_)))
  refine AK.ret1 rfl rfl (fun w hw => ⟨_, _, ?_, rfl, Ret.of (hw.pick [] (by decide) rfl rfl)⟩)
  refine ⟨⟨_, rfl, fun hb => ?_⟩, rfl⟩
  have hz : er = 0 ∧ szE e ≤ m := by
   first | (simp_all; done) | (simp_all <;> omega)
  exact ⟨valid_of (by decide) (by omega) (her hz.1), hz.2⟩
 ·have hg_1_3' := hg_1_3
  try simp only [bs] at hg_1_3'
  refine AK.pass rfl rfl (hg_1_3) rfl ?_
  refine AK.pass rfl rfl (hg_1_3) rfl ?_
  refine AK.pass rfl rfl (hg_1_3) rfl ?_
  refine AK.pass rfl rfl (hg_1_3) rfl ?_
  refine .v (.pickF rfl (hg_1_3) rfl) (.as rfl (.nt hK2 (.ret ?_)))
  refine AK.ret1 rfl rfl (fun w hw => ⟨_, _, ?_, rfl, Ret.of (hw.pick [] (by decide) rfl rfl)⟩)
  refine ⟨⟨_, rfl, fun hb => ?_⟩, rfl⟩
  have hz : er = 0 ∧ szE e ≤ m := by
   first | (simp_all; done) | (simp_all <;> omega)
  exact ⟨valid_of (by decide) (by omega) (her hz.1), hz.2⟩

end Go.Proofs.YtbibnpdnmmgacaaGreatDoor

namespace Go.Sx
open Go.RowKit
/-! ### products: the automaton of a concatenation and of an iteration -/
theorem val_cat {a b : Ex} (ha : validE a 2 = 0 ∧ szE a ≤ 6) (hb : validE b 2 = 0 ∧ szE b ≤ 6) : validE (.mk 5 0 [a, b]) 2 = 0 ∧ szE (.mk 5 0 [a, b]) ≤ 20 := by
  have hs : szE (.mk 5 0 [a, b]) ≤ 20 := by
    have h1 := ha.2; have h2 := hb.2
    simp only [szE_mk, szL_cons, szL_nil]; omega
  refine ⟨valid_of (by decide) (by omega) (wf_node (.inr (.inl rfl)) (Nat.le_refl 2) fun k hk => ?_), hs⟩
  rcases List.mem_cons.1 hk with rfl | hk
  · exact (valid_sz ha.1).2.1
  · rcases List.mem_cons.1 hk with rfl | hk
    · exact (valid_sz hb.1).2.1
    · cases hk
theorem val_sta {a : Ex} (ha : validE a 2 = 0 ∧ szE a ≤ 6) : validE (.mk 7 0 [a]) 2 = 0 ∧ szE (.mk 7 0 [a]) ≤ 20 := by
  have hs : szE (.mk 7 0 [a]) ≤ 20 := by
    have h1 := ha.2
    simp only [szE_mk, szL_cons, szL_nil]; omega
  exact ⟨valid_of (by decide) (by omega) (wf_node1 (.inl rfl) (valid_sz ha.1).2.1), hs⟩
def MinOf (L : Int) (P : List UInt8 → Prop) (d : Dfa) : Prop := VD d ∧ d.L = L ∧ minD d = d ∧ ∀ l : List UInt8, l.all (okB L) = true → (finQ d (runI d d.s l) = true ↔ P l)
theorem LngOk.at0 {L : Int} {P : List UInt8 → Prop} {d : Dfa} {e : Int} (h : LngOk L P d e) (he : e = 0) : MinOf L P d := by
  rcases h with h | ⟨_, h⟩
  · have := h.1; omega
  · exact h
theorem okL_of {P : List UInt8 → Prop} {d : Dfa} (h : MinOf 2 P d) (u : List UInt8) : okL d u ↔ u.all (okB 2) = true ∧ P u := by
  obtain ⟨h1, h2, h3, h4⟩ := h
  unfold okL langD
  rw [h2]
  exact ⟨fun ⟨a, b⟩ => ⟨a, (h4 u a).1 b⟩, fun ⟨a, b⟩ => ⟨a, (h4 u a).2 b⟩⟩
theorem prod_cat {a b : Ex} {d1 d2 d3 d5 : Dfa} (h1 : MinOf 2 (LE a) d1) (h2 : MinOf 2 (LE b) d2) (h3 : MinOf 2 (LE (.mk 5 0 [a, b])) d3) (h5 : MinOf d1.L (fun l => ∃ u v : List UInt8, l = u ++ v ∧ okL d1 u ∧ okL d2 v) d5) : d3 = d5 := by
  have hd : d1.L = 2 := h1.2.1
  rw [hd] at h5
  refine lng_one h3 h5 fun l hl => ?_
  rw [LE5 (e := .mk 5 0 [a, b]) rfl]
  show LEcat [a, b] l ↔ _
  have e1 : LEcat [a, b] l ↔ ∃ u v, l = u ++ v ∧ LE a u ∧ LEcat [b] v := by rw [LEcat]
  rw [e1]
  simp only [LEcat_one, okL_of h1, okL_of h2]
  constructor
  · rintro ⟨u, v, rfl, g1, g2⟩
    rw [List.all_append, Bool.and_eq_true] at hl
    exact ⟨u, v, rfl, ⟨hl.1, g1⟩, hl.2, g2⟩
  · rintro ⟨u, v, rfl, g1, g2⟩; exact ⟨u, v, rfl, g1.2, g2.2⟩
theorem star_ok {P Q : List UInt8 → Prop} {l : List UInt8} (h : StarL P l) (hl : l.all (okB 2) = true) (hpq : ∀ u : List UInt8, u.all (okB 2) = true → P u → Q u) : StarL Q l := by
  induction h with
  | nil => exact .nil
  | @cons u v a _ ih =>
    rw [List.all_append, Bool.and_eq_true] at hl
    exact .cons (hpq u hl.1 a) (ih hl.2)
theorem prod_sta {a : Ex} {d1 d4 d6 : Dfa} (h1 : MinOf 2 (LE a) d1) (h4 : MinOf 2 (LE (.mk 7 0 [a])) d4) (h6 : MinOf d1.L (fun l => StarL (okL d1) l) d6) : d4 = d6 := by
  have hd : d1.L = 2 := h1.2.1
  rw [hd] at h6
  refine lng_one h4 h6 fun l hl => ?_
  rw [LE7 (e := .mk 7 0 [a]) rfl]
  constructor
  · intro h
    exact star_ok h hl fun u hu hp => (okL_of h1 u).2 ⟨hu, LEany_one.1 hp⟩
  · intro h
    exact star_ok h hl fun u hu hp => LEany_one.2 ((okL_of h1 u).1 hp).2
end Go.Sx

namespace Go.Proofs.YtbibnpdnmmgacaaGreatDoor
open Go.Sx Go.RowKit
theorem s_lim (w : World) (f : Int) (hf : f = 0 ∨ f = 3) : CallS Tryz.prog 13 [.int .i64 f] w (fun r o => r = .bool true ∧ o = []) := by
 refine spec_of Tryz.func13 rfl (leb rfl) ?_
 refine .sr fun _ hK1 => ?_
 refine .as rfl (.nt hK1 ?_)
 refine .sr fun _ hK2 => ?_
 refine .mv rfl (.v (.eql rfl rfl) (.mv rfl ?_))
 refine AK.splitB (g := 5) rfl (fun hg_1_2 => ?_) (fun hg_1_2 => ?_)
 ·have hg_1_2' := hg_1_2
  try simp only [bs] at hg_1_2'
  refine AK.pass rfl rfl (hg_1_2) rfl ?_
  refine AK.pass rfl rfl (hg_1_2) rfl ?_
  refine .v (.pickT rfl (hg_1_2) rfl) (.as rfl (.nt hK2 (.ret ?_)))
  refine AK.ret1 rfl rfl (fun w hw => ⟨_, _, ?_, rfl, Ret.of (hw.pick [] (by decide) rfl rfl)⟩)
  refine ⟨congrArg Value.bool ?_, rfl⟩
  first | (simp_all; done) | (simp_all <;> omega)
 ·have hg_1_2' := hg_1_2
  try simp only [bs] at hg_1_2'
  refine AK.val _ (Yl.move rfl) ⟨_, rfl, gB hg_1_2⟩ rfl ?_
  refine AK.val _ (Yl.eql rfl rfl) ⟨_, rfl, gB hg_1_2⟩ rfl ?_
  refine .v (.pickF rfl (hg_1_2) rfl) (.as rfl (.nt hK2 (.ret ?_)))
  refine AK.ret1 rfl rfl (fun w hw => ⟨_, _, ?_, rfl, Ret.of (hw.pick [] (by decide) rfl rfl)⟩)
  refine ⟨congrArg Value.bool ?_, rfl⟩
  first | (simp_all; done) | (simp_all <;> omega)

end Go.Proofs.YtbibnpdnmmgacaaGreatDoor

namespace Go.Sx
open Go.RowKit
def awD : Dfa := ⟨2, 0, [true, false, false], [[1, 2], [2, 0], [2, 2]]⟩
def exLa : Ex := .mk 3 0 []
def exLb : Ex := .mk 3 1 []
def exC : Ex := .mk 5 0 [exLa, exLb]
theorem aw_min : (MinV awD).fin.length = 3 := by decide +kernel
theorem aw_match : (leafS exLa [97] 0).getLsbD 1 = true := by decide +kernel
theorem aw_val : validE exLa 6 = 0 := by decide +kernel
theorem aw_leaf : leafOp exLa := by unfold leafOp; decide
theorem aw_word : validW 6 [97] = true := by decide +kernel
theorem aw_kids {l : List Itm} (h : Itm.deep nilV [] ∈ l) (k : Nat) (hk : k < [exLa, exLb].length) : Itm.deep ([nilV, nilV].getD k undef) ([exLa, exLb].getD k default).kids ∈ l := by
  rcases k with _ | _ | k
  · exact h
  · exact h
  · exact absurd hk (by simp)
theorem aw_kid {l : List Itm} {v : Value} (h : Itm.deep v [exLa, exLb] ∈ l) (k : Nat) (hk : k < [exC].length) : Itm.deep ([v].getD k undef) ([exC].getD k default).kids ∈ l := by
  rcases k with _ | k
  · exact h
  · exact absurd hk (by simp)
end Go.Sx

namespace Go.Proofs.YtbibnpdnmmgacaaGreatDoor
open Go.Sx Go.RowKit
theorem s_letter (w : World) (x : Int) : CallS Tryz.prog 36 [.int .i64 x] w (fun r o => r = .agg #[.int .i64 3, .int .i64 x, nilV] ∧ o = []) := by
 refine spec_of Tryz.func36 rfl (leb rfl) ?_
 refine .sr fun _ hK1 => ?_
 refine AK.alloc el24 rfl rfl trivial rfl (fun bx2 => ?_)
 refine .nt hK1 ?_
 refine .sr fun _ hK2 => ?_
 refine .mv rfl ?_
 refine .v (.build (parts := [(0, .const (.int .i64 3)), (1, .tmp 3)]) (cs := #[.int .i64 3, .int .i64 x, .slice none 0 0]) rfl (by kernel_rfl)) ?_
 refine AK.storeBox 0 (us := [.int .i64 3, .int .i64 x, .slice none 0 0]) (cs' := [.int .i64 3, .int .i64 x, .slice none 0 0]) rfl sz24 rfl rfl rfl rfl oneP (leb rfl) rfl trivial ?_
 refine .nt hK2 (.ret ?_)
 refine AK.retG [.cell 2 24] rfl (.cons (.cell ag24 rfl bsp rfl rfl) (.nil)) (fun w hw => ⟨_, _, ?_, rfl, Ret.of (hw.pick [] (by decide) rfl rfl)⟩)
 exact ⟨rfl, rfl⟩

theorem s_node (w : World) (op : Int) (v : Value) (hv : IsSl v) : CallS Tryz.prog 20 [.int .i64 op, v] w (fun r o => r = .agg #[.int .i64 op, .int .i64 0, v] ∧ o = []) := by
 refine spec_of Tryz.func20 rfl (leb rfl) ?_
 refine .sr fun _ hK1 => ?_
 refine AK.alloc el24 rfl rfl trivial rfl (fun bx4 => ?_)
 refine .nt hK1 ?_
 refine .sr fun _ hK2 => ?_
 refine .mv rfl (.mv rfl ?_)
 refine .v (.build (parts := [(0, .tmp 5), (2, .tmp 6)]) (cs := #[.int .i64 op, .int .i64 0, v]) rfl (by obtain ⟨_, _, _, rfl⟩ := hv; kernel_rfl)) ?_
 refine AK.storeBox 0 (us := [.int .i64 op, .int .i64 0, v]) (cs' := [.int .i64 op, .int .i64 0, v]) rfl sz24 rfl rfl rfl rfl oneP (leb rfl) rfl trivial ?_
 refine .nt hK2 (.ret ?_)
 refine AK.retG [.cell 4 24] rfl (.cons (.cell ag24 rfl bsp rfl rfl) (.nil)) (fun w hw => ⟨_, _, ?_, rfl, Ret.of (hw.pick [] (by decide) rfl rfl)⟩)
 exact ⟨rfl, rfl⟩

set_option maxHeartbeats 2000000 in
theorem s_awake (w : World) (hT : TbA w) : CallS Tryz.prog 9 [] w (fun r o => r = .bool true ∧ o = []) := by
 refine spec_of Tryz.func9 rfl (leb rfl) ?_
 refine .sr fun _ hK1 => ?_
 refine .as rfl (.nt hK1 ?_)
 refine .sr fun _ hK2 => ?_
 refine AK.call co36 rfl (fun w hw => s_letter w 0) trivial rfl ?_
 rintro r o ⟨rfl, rfl⟩
 refine AK.call co36 rfl (fun w hw => s_letter w 1) trivial rfl ?_
 rintro r o ⟨rfl, rfl⟩
 refine AK.lit (xs := [.tmp 4, .tmp 5]) sl22 el24 rfl rfl rfl (by simp [Value.cells]) (by decide) (by decide) trivial rfl (fun lv => ?_)
 refine AK.shape 0 rfl (fun slv => ?_)
 refine AK.call co20 rfl (fun w hw => s_node w 5 lv slv) trivial rfl ?_
 rintro r o ⟨rfl, rfl⟩
 refine AK.lit (xs := [.tmp 7]) sl22 el24 rfl rfl rfl (by simp [Value.cells]) (by decide) (by decide) trivial rfl (fun lw => ?_)
 refine AK.shape 1 rfl (fun slw => ?_)
 refine AK.call co20 rfl (fun w hw => s_node w 7 lw slw) trivial rfl ?_
 rintro r o ⟨rfl, rfl⟩
 refine AK.newForest ⟨w, fun _ => False⟩ ?_
 refine AK.add' 2 (.deep nilV []) rfl (fun R => RdK.nil R) (fun l1 hs1 hm1 => ?_)
 refine AK.close' 2 0 [exLa, exLb] [nilV, nilV] (by decide) rfl rfl rfl rfl rfl (aw_kids hm1) (fun l2 hs2 hm2 _ => ?_)
 refine AK.close' 2 1 [exC] [lv] (by decide) rfl rfl rfl rfl rfl (aw_kid hm2) (fun l3 hs3 hm3 _ => ?_)
 refine AK.callN 2 rfl co11 rfl (fun w Fs hw hh hfr hal => s_build w (Fs 2) ⟨_, fun _ => False⟩ l3 (fun b hb => hb.elim) (hh.at_ 2 _ rfl) exAw lw hm3 2 (awD, 0) build_aw) trivial rfl ?_
 rintro r A o ⟨vF, vN, rs, rfl, hrl, svF, svN, rfl, rfl⟩
 refine AK.flatAt [empA, empA] ?_
 refine .mv rfl (.v (.extract rfl rfl) (.v (.extract rfl rfl) ?_))
 refine AK.alloc el32 rfl rfl trivial rfl (fun bx1 => ?_)
 refine AK.storeBox 5 (us := [.int .i64 (2 : Int), .int .i64 (0 : Int), vF, vN]) (cs' := [.int .i64 (2 : Int), .int .i64 (0 : Int), vF, vN]) rfl sz32 rfl rfl rfl rfl oneP (leb rfl) rfl trivial ?_
 refine .as rfl (.nt hK2 ?_)
 refine .sr fun _ hK3 => ?_
 refine .mv rfl (.v (.eql rfl rfl) (.mv rfl ?_))
 refine AK.knownT (g := 15) rfl (rfl) (fun hg_2_2 => ?_)
 refine AK.val _ (Yl.loadBoxG ag32 rfl bsp rfl rfl) ⟨_, rfl, gB hg_2_2⟩ rfl ?_
 refine AK.call co15 rfl (fun w hw => s_min w _ awD (RdD.own 2 hw hrl rfl rfl rfl)) ⟨_, rfl, gB hg_2_2⟩ rfl ?_
 rintro r o ⟨mF, mN, ms, rfl, hml, smF, smN, rfl⟩
 refine AK.val _ (Yl.fieldQ (FldQ.of (by kernel_rfl) : FldQ _ 32 2 2) rfl rfl) ⟨_, rfl, gB hg_2_2⟩ rfl ?_
 refine AK.val _ (Yl.lenR sl29 rfl rdp) ⟨_, rfl, gB hg_2_2⟩ rfl ?_
 refine AK.val _ (Yl.eql rfl rfl) ⟨_, rfl, gB hg_2_2⟩ rfl ?_
 refine .v (.pickT rfl (hg_2_2) rfl) (.mv rfl ?_)
 refine AK.knownT (g := 22) rfl (by rw [aw_min]; rfl) (fun hg_2_9 => ?_)
 refine AK.call co36 rfl (fun w hw => s_letter w 0) ⟨_, rfl, gB hg_2_9⟩ rfl ?_
 rintro r o ⟨rfl, rfl⟩
 refine AK.call co10 rfl (fun w hw => s_match w exLa nilV (RdK.nil _) [97] (by decide) aw_word aw_val aw_leaf (hT.at hw)) ⟨_, rfl, gB hg_2_9⟩ rfl ?_
 rintro r o ⟨rfl, rfl⟩
 refine .v (.pickT rfl (hg_2_9) rfl) (.as rfl (.nt hK3 (.ret ?_)))
 refine AK.ret1 rfl rfl (fun w hw => ⟨_, _, ?_, rfl, Ret.of (hw.pick [] (by decide) rfl rfl)⟩)
 exact ⟨congrArg Value.bool aw_match, rfl⟩

end Go.Proofs.YtbibnpdnmmgacaaGreatDoor
