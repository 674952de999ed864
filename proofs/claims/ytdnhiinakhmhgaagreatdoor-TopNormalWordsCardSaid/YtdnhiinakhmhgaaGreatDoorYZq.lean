import Derived.Test.YtdnhiinakhmhgaaGreatDoorYZf
import Derived.Test.YtdnhiinakhmhgaaGreatDoorYZc
import Derived.Test.YtdnhiinakhmhgaaGreatDoorYZp
import Derived.Test.YtdnhiinakhmhgaaGreatDoorYZh
import Derived.Test.YtdnhiinakhmhgaaGreatDoorYZn
set_option linter.unusedVariables false
set_option linter.unusedSimpArgs false
set_option maxRecDepth 100000
namespace Go.Sx
/-! ### the words of an enumeration of a monoid, and its rules -/
/-- a pair of an element and a letter ahead of another -/
def Lx (p y u x : Nat) : Prop := p < u ∨ (p = u ∧ y < x)
/-- element j was made from element p by the letter y -/
def Mk (r : Rn) (p y j : Nat) : Prop := 0 < j ∧ j < r.elems.length ∧ r.pre.getD j 0 = (p : Int) ∧ r.las.getD j 0 = (y : Int)
structure FP (r : Rn) (u x : Nat) : Prop where
  n0 : 0 < r.elems.length
  w0 : r.words.getD 0 [] = []
  p0 : r.pre.getD 0 0 = -1
  e0 : r.elems.getD 0 [] = idF r.pts
  ch : ∀ j, 0 < j → j < r.elems.length → ∃ p y, Mk r p y j ∧ p < j ∧ y < r.gens.length ∧ Lx p y u x ∧ r.words.getD j [] = r.words.getD p [] ++ [ltr y] ∧ r.elems.getD j [] = compF (r.elems.getD p []) (r.gens.getD y [])
  asd : ∀ i j p y q z, i < j → Mk r p y i → Mk r q z j → Lx p y q z
  bh : ∀ j, 0 < j → j < r.elems.length → ∃ b c, b < j ∧ r.beh.getD j 0 = ((b : Nat) : Int) ∧ r.words.getD j [] = c :: r.words.getD b []
  ru : ∀ e ∈ r.rules, ∃ p y i, p < r.elems.length ∧ y < r.gens.length ∧ Lx p y u x ∧ e.1 = r.words.getD p [] ++ [ltr y] ∧ (∀ j, ¬ Mk r p y j) ∧ i < r.elems.length ∧ e.2 = r.words.getD i [] ∧ ∀ q z, Mk r q z i → Lx q z p y
  dc : ∀ p y, p < r.elems.length → y < r.gens.length → Lx p y u x → (∃ j, Mk r p y j) ∨ (∃ e ∈ r.rules, e.1 = r.words.getD p [] ++ [ltr y]) ∨ (∃ b c, b < p ∧ r.words.getD p [] = c :: r.words.getD b [] ∧ ∀ j, ¬ Mk r b y j)
  rt : ∀ p y j, p < r.done → y < r.gens.length → Mk r p y j → (r.right.getD p []).getD y 0 = (j : Int)
  pd : ∀ p y, p < r.elems.length → y < r.gens.length → Lx p y u x → ∃ j, j < r.elems.length ∧ r.elems.getD j [] = compF (r.elems.getD p []) (r.gens.getD y []) ∧ sle (r.words.getD j []) (r.words.getD p [] ++ [ltr y])
theorem Lx.irr {u x : Nat} : ¬ Lx u x u x := fun h => by unfold Lx at h; omega
theorem Lx.next {p y u x : Nat} (h : Lx p y u x) : Lx p y u (x + 1) := by unfold Lx at *; omega
theorem FP.none {r : Rn} {u x : Nat} (h : FP r u x) (j : Nat) : ¬ Mk r u x j := fun hm => by
  obtain ⟨p, y, ⟨_, _, h3, h4⟩, _, _, hl, _⟩ := h.ch j hm.1 hm.2.1
  obtain ⟨_, _, k3, k4⟩ := hm
  have e1 : p = u := by omega
  have e2 : y = x := by omega
  subst e1; subst e2; exact hl.irr
theorem Mk.add {r : Rn} {f : List Int} {w : List UInt8} {b : Int} {u x p y j : Nat} (hpl : r.pre.length = r.elems.length) (hll : r.las.length = r.elems.length) (hn : 0 < r.elems.length) :
    Mk (addN r f (u : Int) (x : Int) w b) p y j ↔ Mk r p y j ∨ (j = r.elems.length ∧ p = u ∧ y = x) := by
  unfold Mk
  simp only [addN, List.length_append, List.length_singleton]
  rw [getD_snoc, getD_snoc, hpl, hll]
  by_cases h : j < r.elems.length
  · rw [if_pos h, if_pos h]
    constructor
    · rintro ⟨a, _, c, d⟩; exact .inl ⟨a, h, c, d⟩
    · rintro (⟨a, _, c, d⟩ | ⟨a, _⟩)
      · exact ⟨a, by omega, c, d⟩
      · omega
  · rw [if_neg h, if_neg h]
    constructor
    · rintro ⟨a, b', c, d⟩
      obtain rfl : j = r.elems.length := by omega
      rw [if_pos rfl] at c d
      exact .inr ⟨rfl, by omega, by omega⟩
    · rintro (⟨a, b', _⟩ | ⟨rfl, rfl, rfl⟩)
      · omega
      · simp; exact hn
theorem FP.add {r : Rn} {u x k c : Nat} (h : FP r u x) (hI : RnI r k c) (hu : u < r.elems.length) (hx : x < r.gens.length) (hdu : r.done ≤ u) {f : List Int} (hf : f = compF (r.elems.getD u []) (r.gens.getD x []))
    {b : Nat} {c0 : UInt8} (hb : b < r.elems.length) (hw : r.words.getD u [] ++ [ltr x] = c0 :: r.words.getD b []) :
    FP (addN r f (u : Int) (x : Int) (r.words.getD u [] ++ [ltr x]) (b : Int)) u (x + 1) := by
  have hpl := hI.pl; have hll := hI.ll; have hwl := hI.wl; have hbl := hI.bl; have hn := h.n0
  have ml := fun {p y j : Nat} => Mk.add (r := r) (f := f) (w := r.words.getD u [] ++ [ltr x]) (b := (b : Int)) (u := u) (x := x) (p := p) (y := y) (j := j) hpl hll hn
  have eW : ∀ j, j < r.elems.length → (addN r f (u : Int) (x : Int) (r.words.getD u [] ++ [ltr x]) (b : Int)).words.getD j [] = r.words.getD j [] := fun j hj => by
    simp only [addN]; rw [getD_snoc, hwl, if_pos hj]
  have eE : ∀ j, j < r.elems.length → (addN r f (u : Int) (x : Int) (r.words.getD u [] ++ [ltr x]) (b : Int)).elems.getD j [] = r.elems.getD j [] := fun j hj => by
    simp only [addN]; rw [getD_snoc, if_pos hj]
  have eB : ∀ j, j < r.elems.length → (addN r f (u : Int) (x : Int) (r.words.getD u [] ++ [ltr x]) (b : Int)).beh.getD j 0 = r.beh.getD j 0 := fun j hj => by
    simp only [addN]; rw [getD_snoc, hbl, if_pos hj]
  have wn : (addN r f (u : Int) (x : Int) (r.words.getD u [] ++ [ltr x]) (b : Int)).words.getD r.elems.length [] = r.words.getD u [] ++ [ltr x] := by
    simp only [addN]; rw [getD_snoc, hwl, if_neg (by omega), if_pos rfl]
  have en : (addN r f (u : Int) (x : Int) (r.words.getD u [] ++ [ltr x]) (b : Int)).elems.getD r.elems.length [] = f := by
    simp only [addN]; rw [getD_snoc, if_neg (by omega), if_pos rfl]
  have bn : (addN r f (u : Int) (x : Int) (r.words.getD u [] ++ [ltr x]) (b : Int)).beh.getD r.elems.length 0 = (b : Int) := by
    simp only [addN]; rw [getD_snoc, hbl, if_neg (by omega), if_pos rfl]
  have ln : (addN r f (u : Int) (x : Int) (r.words.getD u [] ++ [ltr x]) (b : Int)).elems.length = r.elems.length + 1 := by simp [addN]
  refine ⟨by omega, by rw [eW 0 hn]; exact h.w0, ?_, by rw [eE 0 hn]; exact h.e0, ?_, ?_, ?_, ?_, ?_, ?_, ?_⟩
  · simp only [addN]; rw [getD_snoc, hpl, if_pos hn]; exact h.p0
  · intro j hj0 hj
    rw [ln] at hj
    by_cases hjn : j < r.elems.length
    · obtain ⟨p, y, h1, h2, h3, h4, h5, h6⟩ := h.ch j hj0 hjn
      refine ⟨p, y, ml.2 (.inl h1), h2, h3, h4.next, ?_, ?_⟩
      · rw [eW j hjn, eW p (by omega)]; exact h5
      · rw [eE j hjn, eE p (by omega)]; exact h6
    · obtain rfl : j = r.elems.length := by omega
      refine ⟨u, x, ml.2 (.inr ⟨rfl, rfl, rfl⟩), hu, hx, .inr ⟨rfl, by omega⟩, ?_, ?_⟩
      · rw [wn, eW u hu]
      · rw [en, eE u hu]; exact hf
  · intro i j p y q z hij hi hj
    rcases ml.1 hi with hi2 | ⟨hi2, _, _⟩
    · rcases ml.1 hj with hj2 | ⟨hj2, hq, hz⟩
      · exact h.asd i j p y q z hij hi2 hj2
      · obtain ⟨p', y', m, _, _, hl, _⟩ := h.ch i hi2.1 hi2.2.1
        have e1 : p' = p := by have := m.2.2.1; have := hi2.2.2.1; omega
        have e2 : y' = y := by have := m.2.2.2; have := hi2.2.2.2; omega
        rw [← e1, ← e2, hq, hz]; exact hl
    · exfalso
      rcases ml.1 hj with hj2 | ⟨hj2, _⟩
      · have := hj2.2.1; omega
      · omega
  · intro j hj0 hj
    rw [ln] at hj
    by_cases hjn : j < r.elems.length
    · obtain ⟨b', c', h1, h2, h3⟩ := h.bh j hj0 hjn
      exact ⟨b', c', h1, by rw [eB j hjn]; exact h2, by rw [eW j hjn, eW b' (by omega)]; exact h3⟩
    · obtain rfl : j = r.elems.length := by omega
      exact ⟨b, c0, hb, bn, by rw [wn, eW b hb]; exact hw⟩
  · intro e he
    obtain ⟨p, y, i, h1, h2, h3, h4, h5, h6, h7, h8⟩ := h.ru e he
    refine ⟨p, y, i, by omega, h2, h3.next, by rw [eW p h1]; exact h4, fun j hj => ?_, by omega, by rw [eW i h6]; exact h7, fun q z hm => ?_⟩
    · rcases ml.1 hj with hj | ⟨_, rfl, rfl⟩
      · exact h5 j hj
      · exact h3.irr
    · rcases ml.1 hm with hm | ⟨hm, _⟩
      · exact h8 q z hm
      · omega
  · intro p y hp hy hl
    rw [ln] at hp
    by_cases hxy : p = u ∧ y = x
    · exact .inl ⟨r.elems.length, ml.2 (.inr ⟨rfl, hxy.1, hxy.2⟩)⟩
    · have hl2 : Lx p y u x := by unfold Lx at *; omega
      have hpn : p < r.elems.length := by unfold Lx at hl2; omega
      rcases h.dc p y hpn hy hl2 with ⟨j, hj⟩ | ⟨e, he, h1⟩ | ⟨b', c', h1, h2, h3⟩
      · exact .inl ⟨j, ml.2 (.inl hj)⟩
      · exact .inr (.inl ⟨e, he, by rw [eW p hpn]; exact h1⟩)
      · refine .inr (.inr ⟨b', c', h1, by rw [eW p hpn, eW b' (by omega)]; exact h2, fun j hj => ?_⟩)
        rcases ml.1 hj with hj | ⟨_, hj, _⟩
        · exact h3 j hj
        · unfold Lx at hl2; omega
  · intro p y j hp hy hm
    rcases ml.1 hm with hm | ⟨hj, hpu, hyx⟩
    · exact h.rt p y j hp hy hm
    · have : p < r.done := hp
      omega
  · intro p y hp hy hl
    rw [ln] at hp
    by_cases hxy : p = u ∧ y = x
    · rw [hxy.1, hxy.2]
      exact ⟨r.elems.length, by omega, by rw [en, eE u hu]; exact hf, by rw [wn, eW u hu]; exact .inr rfl⟩
    · have hl2 : Lx p y u x := by unfold Lx at *; omega
      have hpn : p < r.elems.length := by unfold Lx at hl2; omega
      obtain ⟨j, h1, h2, h3⟩ := h.pd p y hpn hy hl2
      exact ⟨j, by omega, by rw [eE j h1, eE p hpn]; exact h2, by rw [eW j h1, eW p hpn]; exact h3⟩
/-! ### the order -/
theorem FP.asc {r : Rn} {u x : Nat} (h : FP r u x) (hL : r.gens.length ≤ 6) : ∀ j, j < r.elems.length → ∀ i, i < j → slx (r.words.getD i []) (r.words.getD j []) = true := by
  intro j
  induction j using Nat.strongRecOn with
  | _ j ih =>
    intro hj i hi
    obtain ⟨q, z, m, hq, hz, _, hw, _⟩ := h.ch j (by omega) hj
    rcases Nat.eq_zero_or_pos i with h0 | h0
    · subst h0; rw [h.w0, hw]; exact slx_iff.2 (.inl (by simp))
    · obtain ⟨p, y, m2, hp, hy, _, hw2, _⟩ := h.ch i h0 (by omega)
      have hl := h.asd i j p y q z hi m2 m
      rw [hw, hw2]
      rcases hl with hl | ⟨hl, hl2⟩
      · exact slx_app _ _ (ih q hq (by omega) p hl)
      · subst hl; exact slx_last (ltr_lt hl2 (by omega))
theorem FP.lt {r : Rn} {u x : Nat} (h : FP r u x) (hL : r.gens.length ≤ 6) {p y q z : Nat} (hq : q < r.elems.length) (hz : z < r.gens.length) (hl : Lx p y q z) : slx (r.words.getD p [] ++ [ltr y]) (r.words.getD q [] ++ [ltr z]) = true := by
  rcases hl with hl | ⟨hl, hl2⟩
  · exact slx_app _ _ (h.asc hL q hq p hl)
  · subst hl; exact slx_last (ltr_lt hl2 (by omega))
/-- what there is comes ahead of what is next -/
theorem FP.ahead {r : Rn} {u x i : Nat} (h : FP r u x) (hL : r.gens.length ≤ 6) (hu : u < r.elems.length) (hx : x < r.gens.length) (hi : i < r.elems.length) : slx (r.words.getD i []) (r.words.getD u [] ++ [ltr x]) = true := by
  rcases Nat.eq_zero_or_pos i with h0 | h0
  · subst h0; rw [h.w0]; exact slx_iff.2 (.inl (by simp))
  · obtain ⟨p, y, m2, hp, hy, hl, hw2, _⟩ := h.ch i h0 hi
    rw [hw2]; exact h.lt hL hu hx hl
theorem sleU_trans {a b c : List UInt8} (h : sle a b) (k : sle b c) : sle a c := by
  rcases h with h | h
  · rcases k with k | k
    · exact .inl (slx_trans h k)
    · exact k ▸ .inl h
  · exact h ▸ k
theorem sle_slx {a b c : List UInt8} (h : sle a b) (k : slx b c = true) : slx a c = true := by
  rcases h with h | h
  · exact slx_trans h k
  · exact h ▸ k
theorem sleU_app {u v : List UInt8} (a : UInt8) (h : sle u v) : sle (u ++ [a]) (v ++ [a]) := by
  rcases h with h | h
  · exact .inl (slx_app _ _ h)
  · exact .inr (by rw [h])
theorem slxU_cons {u v : List UInt8} (c : UInt8) (h : slx u v = true) : slx (c :: u) (c :: v) = true := by
  rw [slx_iff] at *
  simp only [List.length_cons]
  rcases h with h | ⟨h, h2⟩
  · exact .inl (by omega)
  · refine .inr ⟨by omega, ?_⟩
    simp only [Op.bytesLess, UInt8.lt_irrefl, if_false, decide_false]
    simpa using h2
theorem FP.winj {r : Rn} {u x : Nat} (h : FP r u x) (hL : r.gens.length ≤ 6) {i j : Nat} (hi : i < r.elems.length) (hj : j < r.elems.length) (e : r.words.getD i [] = r.words.getD j []) : i = j := by
  rcases Nat.lt_trichotomy i j with hh | hh | hh
  · have := h.asc hL j hj i hh; rw [e, slx_irr] at this; cases this
  · exact hh
  · have := h.asc hL i hi j hh; rw [e, slx_irr] at this; cases this
theorem ltrU_inj {x y : Nat} (hx : x < 128) (hy : y < 128) (e : ltr x = ltr y) : x = y := by
  have h := congrArg UInt8.toNat e
  rw [ltr_toNat hx, ltr_toNat hy] at h; omega
theorem FP.mk_of {r : Rn} {u x : Nat} (h : FP r u x) (hL : r.gens.length ≤ 6) {j b k : Nat} (hj : j < r.elems.length) (hb : b < r.elems.length) (hk : k < 128) (e : r.words.getD j [] = r.words.getD b [] ++ [ltr k]) : Mk r b k j := by
  have hj0 : 0 < j := by
    rcases Nat.eq_zero_or_pos j with h0 | h0
    · subst h0; rw [h.w0] at e; simp at e
    · exact h0
  obtain ⟨p', y', m', hp', hy', _, hw', _⟩ := h.ch j hj0 hj
  rw [hw'] at e
  obtain ⟨w1, w2⟩ := List.append_inj' e rfl
  have e1 := h.winj hL (by omega) hb w1
  have e2 := ltrU_inj (by omega) hk (List.singleton_inj.1 w2)
  subst e1; subst e2; exact m'
/-! ### the element of a word -/
def evW (r : Rn) (v : List UInt8) : List Int := v.foldl (fun f a => compF f (r.gens.getD (a.toNat - 97) [])) (idF r.pts)
theorem evW_snoc (r : Rn) (v : List UInt8) {y : Nat} (hy : y < 128) : evW r (v ++ [ltr y]) = compF (evW r v) (r.gens.getD y []) := by
  unfold evW
  rw [List.foldl_append]
  show compF _ (r.gens.getD ((ltr y).toNat - 97) []) = _
  rw [ltr_toNat hy, Nat.add_sub_cancel_left]
theorem compF_assoc {n : Nat} {f g h : List Int} (hf : VF n f) (hg : g.length = n) : compF (compF f g) h = compF f (compF g h) := by
  have hm := hf.mem
  unfold compF
  rw [List.map_map]
  apply List.map_congr_left
  intro j hj
  have h1 := hm j hj
  simp only [Function.comp_apply, List.getD_eq_getElem?_getD, List.getElem?_map]
  have h2 : j.toNat < g.length := by omega
  rw [List.getElem?_eq_getElem h2]
  rfl
theorem VF.idc {n : Nat} {f : List Int} (h : VF n f) : compF f (idF n) = f := by
  unfold compF
  have hm := h.mem
  conv => rhs; rw [← List.map_id f]
  apply List.map_congr_left
  intro j hj
  have h1 := hm j hj
  unfold idF
  have h2 : j.toNat < n := by omega
  simp [List.getD_eq_getElem?_getD, h2]
  omega
def okL (L : Nat) (v : List UInt8) : Prop := ∀ a ∈ v, ∃ y, y < L ∧ a = ltr y
theorem evW_from {r : Rn} (hG : VG r.gens r.pts) : ∀ (v : List UInt8) (f g : List Int), okL r.gens.length v → VF r.pts f → VF r.pts g → v.foldl (fun f a => compF f (r.gens.getD (a.toNat - 97) [])) (compF f g) = compF f (v.foldl (fun f a => compF f (r.gens.getD (a.toNat - 97) [])) g)
  | [], f, g, _, _, _ => rfl
  | a :: v, f, g, hv, hf, hg => by
    obtain ⟨y, hy, rfl⟩ := hv a (List.mem_cons_self)
    have hl := hG.len
    have e : (ltr y).toNat - 97 = y := by rw [ltr_toNat (by omega), Nat.add_sub_cancel_left]
    simp only [List.foldl_cons]
    rw [e, compF_assoc hf hg.1]
    exact evW_from hG v f _ (fun b hb => hv b (List.mem_cons_of_mem _ hb)) hf (hg.comp (hG.fs y hy))
theorem compF_idl {n : Nat} {g : List Int} (h : g.length = n) : compF (idF n) g = g := by
  unfold compF idF
  rw [List.map_map]
  apply List.ext_getElem
  · simp [h]
  · intro i h1 h2
    simp [List.getD_eq_getElem?_getD, List.getElem?_eq_getElem h2]
theorem evW_cons {r : Rn} (hG : VG r.gens r.pts) {y : Nat} (hy : y < r.gens.length) {v : List UInt8} (hv : okL r.gens.length v) : evW r (ltr y :: v) = compF (r.gens.getD y []) (evW r v) := by
  have hl := hG.len
  have e : (ltr y).toNat - 97 = y := by rw [ltr_toNat (by omega), Nat.add_sub_cancel_left]
  unfold evW
  rw [List.foldl_cons, e, ← evW_from hG v _ _ hv (hG.fs y hy) VF.id, compF_idl (hG.fs y hy).1, (hG.fs y hy).idc]
theorem FP.okw {r : Rn} {u x : Nat} (h : FP r u x) : ∀ j, j < r.elems.length → okL r.gens.length (r.words.getD j []) := by
  intro j
  induction j using Nat.strongRecOn with
  | _ j ih =>
    intro hj
    rcases Nat.eq_zero_or_pos j with h0 | h0
    · subst h0; rw [h.w0]; exact fun a ha => by cases ha
    · obtain ⟨p, y, _, hp, hy, _, hw, _⟩ := h.ch j h0 hj
      rw [hw]
      intro a ha
      rcases List.mem_append.1 ha with ha | ha
      · exact ih p hp (by omega) a ha
      · rw [List.mem_singleton] at ha; exact ⟨y, hy, ha⟩
theorem FP.ev {r : Rn} {u x : Nat} (h : FP r u x) (hL : r.gens.length ≤ 6) : ∀ j, j < r.elems.length → evW r (r.words.getD j []) = r.elems.getD j [] := by
  intro j
  induction j using Nat.strongRecOn with
  | _ j ih =>
    intro hj
    rcases Nat.eq_zero_or_pos j with h0 | h0
    · subst h0; rw [h.w0, h.e0]; rfl
    · obtain ⟨p, y, _, hp, hy, _, hw, he⟩ := h.ch j h0 hj
      rw [hw, he, evW_snoc r _ (by omega), ih p hp (by omega)]
/-- all lesser words have their elements -/
theorem FP.cov {r : Rn} {u x : Nat} (h : FP r u x) (hL : r.gens.length ≤ 6) (hu : u < r.elems.length) (hx : x < r.gens.length) : ∀ (n : Nat) (v : List UInt8), v.length = n → okL r.gens.length v → slx v (r.words.getD u [] ++ [ltr x]) = true →
    ∃ i, i < r.elems.length ∧ r.elems.getD i [] = evW r v ∧ sle (r.words.getD i []) v
  | 0, v, hn, hv, hs => by
    obtain rfl : v = [] := List.length_eq_zero_iff.1 hn
    exact ⟨0, h.n0, h.e0, by rw [h.w0]; exact .inr rfl⟩
  | n + 1, v, hn, hv, hs => by
    obtain ⟨v', a, rfl⟩ : ∃ v' a, v = v' ++ [a] := by
      rcases List.eq_nil_or_concat v with h0 | ⟨l, a, h0⟩
      · subst h0; simp at hn
      · exact ⟨l, a, by rw [h0, List.concat_eq_append]⟩
    obtain ⟨y, hy, rfl⟩ := hv a (List.mem_append_right _ (List.mem_singleton.2 rfl))
    have hs' : slx v' (r.words.getD u [] ++ [ltr x]) = true := slx_trans (slx_iff.2 (.inl (by simp))) hs
    obtain ⟨i, hi, he, hw⟩ := h.cov hL hu hx n v' (by simpa using hn) (fun b hb => hv b (List.mem_append_left _ hb)) hs'
    have h1 : slx (r.words.getD i [] ++ [ltr y]) (r.words.getD u [] ++ [ltr x]) = true := sle_slx (sleU_app _ hw) hs
    have hl : Lx i y u x := by
      rcases Classical.em (Lx i y u x) with hh | hh
      · exact hh
      · exfalso
        by_cases hc : i = u ∧ y = x
        · rw [hc.1, hc.2, slx_irr] at h1; cases h1
        · have h2 := h.lt hL (p := u) (y := x) hi hy (by unfold Lx at *; omega)
          have h3 := slx_trans h1 h2
          rw [slx_irr] at h3; cases h3
    obtain ⟨j, hj, he2, hw2⟩ := h.pd i y hi hy hl
    exact ⟨j, hj, by rw [he2, he, evW_snoc r _ (by omega)], sleU_trans hw2 (sleU_app _ hw)⟩
theorem textF_inj {n : Nat} (hn : n ≤ 256) : ∀ {f g : List Int}, VF n f → VF n g → textF f = textF g → f = g := fun {f g} hf hg e => by
  have hl : f.length = g.length := by rw [hf.1, hg.1]
  apply List.ext_getElem hl
  intro i h1 h2
  have e1 : (textF f)[i]? = (textF g)[i]? := by rw [e]
  unfold textF at e1
  rw [List.getElem?_map, List.getElem?_map, List.getElem?_eq_getElem h1, List.getElem?_eq_getElem h2] at e1
  have e2 := congrArg UInt8.toNat (Option.some.inj e1)
  have b1 := hf.mem _ (List.getElem_mem h1)
  have b2 := hg.mem _ (List.getElem_mem h2)
  simp only [UInt8.toNat_ofNat'] at e2
  omega
/-- the next pair makes no element, for one of two reasons -/
theorem FP.skip {r : Rn} {u x i : Nat} (h : FP r u x) (hL : r.gens.length ≤ 6) (hu : u < r.elems.length) (hx : x < r.gens.length) (hi : i < r.elems.length) (hie : r.elems.getD i [] = compF (r.elems.getD u []) (r.gens.getD x [])) (hb : ∃ b c, b < u ∧ r.words.getD u [] = c :: r.words.getD b [] ∧ ∀ j, ¬ Mk r b x j) : FP r u (x + 1) :=
  { h with
    ch := fun j h0 h1 => by
      obtain ⟨p, y, h2, h3, h4, h5, h6⟩ := h.ch j h0 h1
      exact ⟨p, y, h2, h3, h4, h5.next, h6⟩
    ru := fun e he => by
      obtain ⟨p, y, i, h1, h2, h3, h4⟩ := h.ru e he
      exact ⟨p, y, i, h1, h2, h3.next, h4⟩
    dc := fun p y hp hy hl => by
      by_cases hxy : p = u ∧ y = x
      · rw [hxy.1, hxy.2]; exact .inr (.inr hb)
      · exact h.dc p y hp hy (by unfold Lx at *; omega)
    pd := fun p y hp hy hl => by
      by_cases hxy : p = u ∧ y = x
      · rw [hxy.1, hxy.2]; exact ⟨i, hi, hie, .inl (h.ahead hL hu hx hi)⟩
      · exact h.pd p y hp hy (by unfold Lx at *; omega) }
theorem FP.rule {r : Rn} {u x i : Nat} (h : FP r u x) (hL : r.gens.length ≤ 6) (hu : u < r.elems.length) (hx : x < r.gens.length) (hi : i < r.elems.length) (hie : r.elems.getD i [] = compF (r.elems.getD u []) (r.gens.getD x [])) : FP (ruleN r (r.words.getD u [] ++ [ltr x]) (r.words.getD i [])) u (x + 1) :=
  { n0 := h.n0, w0 := h.w0, p0 := h.p0, e0 := h.e0
    ch := fun j h0 h1 => by
      obtain ⟨p, y, h2, h3, h4, h5, h6⟩ := h.ch j h0 h1
      exact ⟨p, y, h2, h3, h4, h5.next, h6⟩
    asd := h.asd
    bh := h.bh
    ru := fun e he => by
      rcases List.mem_append.1 he with he | he
      · obtain ⟨p, y, i, h1, h2, h3, h4⟩ := h.ru e he
        exact ⟨p, y, i, h1, h2, h3.next, h4⟩
      · rw [List.mem_singleton] at he
        subst he
        refine ⟨u, x, i, hu, hx, .inr ⟨rfl, by omega⟩, rfl, h.none, hi, rfl, fun q z hm => ?_⟩
        obtain ⟨p', y', m, _, _, hl, _⟩ := h.ch i hm.1 hm.2.1
        have e1 : p' = q := by have := m.2.2.1; have : r.pre.getD i 0 = (q : Int) := hm.2.2.1; omega
        have e2 : y' = z := by have := m.2.2.2; have : r.las.getD i 0 = (z : Int) := hm.2.2.2; omega
        subst e1; subst e2; exact hl
    dc := fun p y hp hy hl => by
      by_cases hxy : p = u ∧ y = x
      · rw [hxy.1, hxy.2]; exact .inr (.inl ⟨_, List.mem_append_right _ (List.mem_singleton.2 rfl), rfl⟩)
      · rcases h.dc p y hp hy (by unfold Lx at *; omega) with h1 | ⟨e, he, h1⟩ | h1
        · exact .inl h1
        · exact .inr (.inl ⟨e, List.mem_append_left _ he, h1⟩)
        · exact .inr (.inr h1)
    rt := h.rt
    pd := fun p y hp hy hl => by
      by_cases hxy : p = u ∧ y = x
      · rw [hxy.1, hxy.2]; exact ⟨i, hi, hie, .inl (h.ahead hL hu hx hi)⟩
      · exact h.pd p y hp hy (by unfold Lx at *; omega) }
theorem FP.sing {r : Rn} {u x : Nat} (h : FP r u x) (i : Int) : FP (singN r i) u x :=
  { n0 := h.n0, w0 := h.w0, p0 := h.p0, e0 := h.e0, ch := h.ch, asd := h.asd, bh := h.bh, ru := h.ru, dc := h.dc, rt := h.rt, pd := h.pd }
/-- a row is full -/
theorem FP.turn {r : Rn} {u : Nat} (h : FP r u r.gens.length) : FP r (u + 1) 0 :=
  { h with
    ch := fun j h0 h1 => by
      obtain ⟨p, y, h2, h3, h4, h5, h6⟩ := h.ch j h0 h1
      exact ⟨p, y, h2, h3, h4, by unfold Lx at *; omega, h6⟩
    ru := fun e he => by
      obtain ⟨p, y, i, h1, h2, h3, h4⟩ := h.ru e he
      exact ⟨p, y, i, h1, h2, by unfold Lx at *; omega, h4⟩
    dc := fun p y hp hy hl => h.dc p y hp hy (by unfold Lx at *; omega)
    pd := fun p y hp hy hl => h.pd p y hp hy (by unfold Lx at *; omega) }
/-- a row is appended -/
theorem FP.push {r : Rn} {u x k c : Nat} (h : FP r u x) (hI : RnI r k c) {row : List Int} (hr : ∀ y j, y < r.gens.length → Mk r r.done y j → row.getD y 0 = (j : Int)) : FP { r with right := r.right ++ [row], done := r.done + 1 } u x :=
  { n0 := h.n0, w0 := h.w0, p0 := h.p0, e0 := h.e0, ch := h.ch, asd := h.asd, bh := h.bh, ru := h.ru, dc := h.dc, pd := h.pd
    rt := fun p y j hp hy hm => by
      have hrl := hI.rl
      show ((r.right ++ [row]).getD p []).getD y 0 = _
      rw [getD_snoc, hrl]
      by_cases hpd : p < r.done
      · rw [if_pos hpd]; exact h.rt p y j hpd hy hm
      · have hp' : p < r.done + 1 := hp
        obtain rfl : p = r.done := by omega
        rw [if_neg hpd, if_pos rfl]; exact hr y j hy hm }
theorem txs_get (r : Rn) (i : Nat) : (txs r).getD i (textF []) = textF (r.elems.getD i []) := by
  unfold txs; simp only [List.getD_eq_getElem?_getD, List.getElem?_map]; cases r.elems[i]? <;> rfl
theorem posN_fn {r : Rn} {k c : Nat} (hI : RnI r k c) {f : List Int} (hf : VF r.pts f) (hin : textF f ∈ txs r) : r.elems.getD (posN (txs r) (textF f)) [] = f := by
  have hp := posN_lt hin
  have hp2 := hp
  rw [txs_len] at hp2
  have hpt := hI.g.pts
  refine textF_inj (n := r.pts) (by omega) (hI.el _ hp2) hf ?_
  rw [← txs_get]
  exact getD_posN (textF []) hin
/-- the letters -/
theorem begK_fp {G : List (List Int)} {n : Nat} (hG : VG G n) (hn : (G.getD 0 []).length = n) : ∀ k, k ≤ G.length → FP (begK G true k) 0 k ∧ ∀ y, y < k → textF (G.getD y []) ∈ txs (begK G true k)
  | 0, _ => by
    refine ⟨⟨by simp [begK, rn1, addN, rn0], rfl, rfl, rfl, ?_, ?_, ?_, ?_, ?_, ?_, ?_⟩, fun y hy => absurd hy (by omega)⟩
    · intro j h0 h1; simp [begK, rn1, addN, rn0] at h1; omega
    · intro i j p y q z hij hi hj; have := hj.2.1; simp [begK, rn1, addN, rn0] at this; omega
    · intro j h0 h1; simp [begK, rn1, addN, rn0] at h1; omega
    · intro e he; simp [begK, rn1, addN, rn0] at he
    · intro p y hp hy hl; unfold Lx at hl; omega
    · intro p y j hp; simp [begK, rn1, addN, rn0] at hp
    · intro p y hp hy hl; unfold Lx at hl; omega
  | k + 1, hk => by
    obtain ⟨h, hm⟩ := begK_fp hG hn k (by omega)
    obtain ⟨hI, hg, _⟩ := begK_ok hG true hn k (by omega)
    have hd : (begK G true k).done = 0 := (begK_keep G true k).2.2.2
    have hpt : (begK G true k).pts = n := (begK_keep G true k).1.trans hn
    have h0 := h.n0
    have hkg : k < (begK G true k).gens.length := by rw [hg]; omega
    have hv : VF (begK G true k).pts ((begK G true k).gens.getD k []) := hI.g.fs k hkg
    have hc : compF ((begK G true k).elems.getD 0 []) ((begK G true k).gens.getD k []) = (begK G true k).gens.getD k [] := by rw [h.e0, compF_idl hv.1]
    have hL6 : (begK G true k).gens.length ≤ 6 := by have := hI.g.len; omega
    show FP (genN (begK G true k) (emp1 true) k) 0 (k + 1) ∧ ∀ y, y < k + 1 → textF (G.getD y []) ∈ txs (genN (begK G true k) (emp1 true) k)
    unfold genN
    split
    · rename_i hin
      have hp := posN_lt hin
      rw [txs_len] at hp
      refine ⟨?_, fun y hy => ?_⟩
      · have h2 := h.rule hL6 h0 hkg hp (by rw [hc]; exact posN_fn hI hv hin)
        rw [h.w0] at h2
        exact h2.sing _
      · show _ ∈ txs (begK G true k)
        rcases Nat.lt_or_ge y k with hy2 | hy2
        · exact hm y hy2
        · obtain rfl : y = k := by omega
          rw [hg] at hin; exact hin
    · rename_i hin
      refine ⟨?_, fun y hy => ?_⟩
      · have h2 := h.add hI h0 hkg (by omega) hc.symm (b := 0) (c0 := ltr k) h0 (by rw [h.w0]; rfl)
        rw [h.w0] at h2
        exact h2.sing _
      · show _ ∈ txs (addN (begK G true k) ((begK G true k).gens.getD k []) (emp1 true) (k : Int) [ltr k] (emp1 true))
        have e : ∀ f p l w b, txs (addN (begK G true k) f p l w b) = txs (begK G true k) ++ [textF f] := fun f p l w b => by simp [txs, addN]
        rw [e, List.mem_append, List.mem_singleton]
        rcases Nat.lt_or_ge y k with hy2 | hy2
        · exact .inl (hm y hy2)
        · obtain rfl : y = k := by omega
          rw [hg]; exact .inr rfl
/-! ### the first row: nothing is new -/
theorem rowN_0 {r : Rn} {u x c : Nat} (h : FP r u x) (hI : RnI r r.gens.length c) (hd : r.done = 0) (hm : ∀ y, y < r.gens.length → textF (r.gens.getD y []) ∈ txs r) :
    ∀ k, k ≤ r.gens.length → rowN r k = (r, (List.range k).map fun y => ((posN (txs r) (textF (prodN r y)) : Nat) : Int))
  | 0, _ => rfl
  | k + 1, hk => by
    have ih := rowN_0 h hI hd hm k (by omega)
    have hin : textF (prodN r k) ∈ txs r := by
      unfold prodN
      rw [hd, h.e0, compF_idl (hI.g.fs k (by omega)).1]
      exact hm k (by omega)
    have hw : r.words.getD r.done [] = [] := by rw [hd]; exact h.w0
    show ((letN (rowN r k).1 k).1, (rowN r k).2 ++ [(letN (rowN r k).1 k).2]) = _
    rw [ih]
    simp only [letN]
    rw [if_pos hin, if_neg (fun hh => hh.1 hw), List.range_succ, List.map_append]
    rfl
theorem posN_mk {r : Rn} {k c : Nat} {u x y p j : Nat} (h : FP r u x) (hI : RnI r k c) (hm : Mk r p y j) : posN (txs r) (textF (compF (r.elems.getD p []) (r.gens.getD y []))) = j := by
  obtain ⟨p', y', m, _, _, _, _, e⟩ := h.ch j hm.1 hm.2.1
  have e1 : p' = p := by have := m.2.2.1; have := hm.2.2.1; omega
  have e2 : y' = y := by have := m.2.2.2; have := hm.2.2.2; omega
  subst e1; subst e2
  rw [← e]
  have hj : j < (txs r).length := by rw [txs_len]; exact hm.2.1
  have := posN_at (textF []) hI.nd hj
  rw [txs_get] at this
  exact this
/-! ### a later row -/
structure RowI (r : Rn) (k : Nat) : Prop where
  fp : FP (rowN r k).1 r.done k
  row : ∀ y j, y < k → Mk (rowN r k).1 r.done y j → (rowN r k).2.getD y 0 = (j : Int)
theorem redN_iff {r : Rn} {u x c : Nat} (h : FP r u x) (hI : RnI r r.gens.length c) {b y : Nat} (hb : b < r.done) (hy : y < r.gens.length) : redN r (b : Int) y = true ↔ ∃ j, Mk r b y j := by
  obtain ⟨h1, h2⟩ := hI.rr b hb
  obtain ⟨g1, g2⟩ := h2 y hy
  unfold redN afterN
  rw [if_neg (by omega), Bool.and_eq_true, decide_eq_true_eq, decide_eq_true_eq, Int.toNat_natCast]
  constructor
  · rintro ⟨k1, k2⟩
    refine ⟨((r.right.getD b []).getD y 0).toNat, ?_, by omega, k1, k2⟩
    rcases Nat.eq_zero_or_pos ((r.right.getD b []).getD y 0).toNat with hz | hz
    · rw [hz, h.p0] at k1; omega
    · exact hz
  · rintro ⟨j, hj⟩
    rw [h.rt b y j hb hy hj, Int.toNat_natCast]
    exact ⟨hj.2.2.1, hj.2.2.2⟩
theorem rowI {r : Rn} {c : Nat} (h : FP r r.done 0) (hI : RnI r r.gens.length c) (hd : r.done < r.elems.length) (h0 : 0 < r.done) : ∀ k, k ≤ r.gens.length → RowI r k
  | 0, _ => ⟨h, fun y j hy => absurd hy (by omega)⟩
  | k + 1, hk => by
    obtain ⟨hf, hrow⟩ := rowI h hI hd h0 k (by omega)
    obtain ⟨hI1, hg1, hd1, hr1, hle, hrl, _⟩ := rowN_ok hI hd k (by omega)
    generalize hq : (rowN r k).1 = q at *
    have hkg : k < q.gens.length := by rw [hg1]; omega
    have hun : r.done < q.elems.length := by omega
    obtain ⟨b, c0, hb, hbe, hbw⟩ := hf.bh r.done h0 hun
    obtain ⟨p, y, m, hpj, hyg, hl, hwd, _⟩ := hf.ch r.done h0 hun
    have hne : q.words.getD q.done [] ≠ [] := by rw [hd1, hwd]; simp
    have hI2 : RnI q q.gens.length (c + k) := by rw [hg1]; exact hI1
    have hpq : prodN q k = compF (q.elems.getD r.done []) (q.gens.getD k []) := by unfold prodN; rw [hd1]
    have e1 : (rowN r (k + 1)).1 = (letN q k).1 := by show (letN (rowN r k).1 k).1 = _; rw [hq]
    have e2 : (rowN r (k + 1)).2 = (rowN r k).2 ++ [(letN q k).2] := by show (rowN r k).2 ++ [(letN (rowN r k).1 k).2] = _; rw [hq]
    have hL6 : q.gens.length ≤ 6 := by have := hI2.g.len; omega
    have hvp : VF q.pts (prodN q k) := by rw [hpq]; exact (hI2.el _ hun).comp (hI2.g.fs k hkg)
    have key : FP (letN q k).1 r.done (k + 1) ∧ (∀ y j, Mk (letN q k).1 r.done y j → Mk q r.done y j ∨ (y = k ∧ (letN q k).2 = (j : Int))) := by
      by_cases hin : textF (prodN q k) ∈ txs q
      · have hp := posN_lt hin
        rw [txs_len] at hp
        have hie : q.elems.getD (posN (txs q) (textF (prodN q k))) [] = compF (q.elems.getD r.done []) (q.gens.getD k []) := by
          rw [← hpq]; exact posN_fn hI2 hvp hin
        have hsk : redN q (q.beh.getD q.done 0) k = true ↔ ∃ j, Mk q b k j := by
          rw [hd1, hbe]; exact redN_iff hf hI2 (by omega) hkg
        unfold letN
        rw [if_pos hin]
        by_cases hred : redN q (q.beh.getD q.done 0) k = true
        · rw [if_pos ⟨hne, hred⟩]
          have h3 := hf.rule hL6 hun hkg hp hie
          refine ⟨?_, fun y j hm => .inl hm⟩
          show FP (ruleN q (longN q k) _) _ _
          unfold longN; rw [hd1]; exact h3
        · rw [if_neg (fun hh => hred hh.2)]
          exact ⟨hf.skip hL6 hun hkg hp hie ⟨b, c0, hb, hbw, fun j hj => hred (hsk.2 ⟨j, hj⟩)⟩, fun y j hm => .inl hm⟩
      · -- the new element's tail
        have hbd : b < q.done := by omega
        have hbn : b < q.elems.length := by omega
        have hok := hf.okw r.done hun
        rw [hbw] at hok
        obtain ⟨cy, hcy, rfl⟩ := hok c0 (List.mem_cons_self)
        have hokb : okL q.gens.length (q.words.getD b []) := fun a ha => hok a (List.mem_cons_of_mem _ ha)
        have hG2 := hI2.g
        have hm : ∃ j, Mk q b k j := by
          rcases Classical.em (∃ j, Mk q b k j) with hh | hh
          · exact hh
          · exfalso
            obtain ⟨j, hj, he, hw⟩ := hf.pd b k hbn hkg (.inl hb)
            have hlt : slx (q.words.getD j []) (q.words.getD b [] ++ [ltr k]) = true := by
              rcases hw with hw | hw
              · exact hw
              · exfalso
                exact hh ⟨j, hf.mk_of hL6 hj hbn (by omega) hw⟩
            have h2 := slxU_cons (ltr cy) hlt
            rw [← List.cons_append, ← hbw] at h2
            obtain ⟨i, hi, hie, _⟩ := hf.cov hL6 hun hkg _ _ rfl (fun a ha => by
              rcases List.mem_cons.1 ha with ha | ha
              · exact ⟨cy, hcy, ha⟩
              · exact hf.okw j hj a ha) h2
            rw [evW_cons hG2 hcy (hf.okw j hj), hf.ev hL6 j hj, he, ← compF_assoc (hG2.fs cy hcy) (hI2.el b hbn).1, ← hf.ev hL6 b hbn, ← evW_cons hG2 hcy hokb, ← hbw, hf.ev hL6 _ hun, ← hpq] at hie
            exact hin (by rw [← hie]; exact List.mem_map.2 ⟨_, getD_mem hi, rfl⟩)
        obtain ⟨j, hj⟩ := hm
        have hjr := hf.rt b k j hbd hkg hj
        have hjw : q.words.getD j [] = q.words.getD b [] ++ [ltr k] := by
          obtain ⟨p', y', m', _, _, _, hw', _⟩ := hf.ch j hj.1 hj.2.1
          have e1 : p' = b := by have := m'.2.2.1; have := hj.2.2.1; omega
          have e2 : y' = k := by have := m'.2.2.2; have := hj.2.2.2; omega
          rw [hw', e1, e2]
        have haf : afterN q (q.beh.getD q.done 0) k = ((j : Nat) : Int) := by
          rw [hd1, hbe]; unfold afterN; rw [if_neg (by omega), Int.toNat_natCast]; exact hjr
        have h3 := hf.add hI2 hun hkg (by omega) hpq (b := j) (c0 := ltr cy) hj.2.1 (by rw [hbw, hjw]; rfl)
        unfold letN
        rw [if_neg hin]
        refine ⟨?_, fun y j' hm' => ?_⟩
        · show FP (addN q (prodN q k) (q.done : Int) (k : Int) (longN q k) (afterN q (q.beh.getD q.done 0) k)) _ _
          rw [haf]; unfold longN; rw [hd1]; exact h3
        · have hm2 : Mk (addN q (prodN q k) (q.done : Int) (k : Int) (longN q k) (afterN q (q.beh.getD q.done 0) k)) r.done y j' := hm'
          rcases (Mk.add hI2.pl hI2.ll hf.n0).1 hm2 with hm3 | ⟨rfl, _, rfl⟩
          · exact .inl hm3
          · exact .inr ⟨rfl, rfl⟩
    refine ⟨by rw [e1]; exact key.1, fun y j hy hm => ?_⟩
    rw [e1] at hm
    rw [e2, getD_snoc, hrl]
    rcases key.2 y j hm with hm2 | ⟨hy2, hj⟩
    · by_cases hyk : y < k
      · rw [if_pos hyk]; exact hrow y j hyk hm2
      · exfalso
        obtain rfl : y = k := by omega
        exact hf.none j hm2
    · rw [if_neg (by omega), if_pos hy2]; exact hj
end Go.Sx

namespace Go.Sx
/-! ### the end of an enumeration of a monoid -/
theorem FP.turn' {r : Rn} {u x : Nat} (h : FP r u x) (e : x = r.gens.length) : FP r (u + 1) 0 := by subst e; exact h.turn
theorem runK_fp {G : List (List Int)} {n : Nat} (hG : VG G n) (hn : (G.getD 0 []).length = n) : ∀ j,
    ((runK (begN G true) j).done = 0 ∧ FP (runK (begN G true) j) 0 G.length ∧ ∀ y, y < G.length → textF (G.getD y []) ∈ txs (runK (begN G true) j)) ∨ (0 < (runK (begN G true) j).done ∧ FP (runK (begN G true) j) (runK (begN G true) j).done 0)
  | 0 => by
    obtain ⟨h1, h2⟩ := begK_fp hG hn G.length (Nat.le_refl _)
    exact .inl ⟨(begK_keep G true G.length).2.2.2, h1, h2⟩
  | j + 1 => by
    have ih := runK_fp hG hn j
    have hw := Way.run hG true hn j
    have hg : (runK (begN G true) j).gens = G := (runK_keep (begN G true) j).2.2.trans (begK_keep G true G.length).2.2.1
    simp only [runK]
    generalize hq : runK (begN G true) j = q at *
    split
    · exact ih
    · rename_i hd
      have hI := hw.ok
      have hdn := hI.dn
      have hlt : q.done < q.elems.length := by omega
      rcases ih with ⟨h0, hf, hm⟩ | ⟨h0, hf⟩
      · right
        have e := rowN_0 hf hI h0 (fun y hy => by rw [hg]; exact hm y (by rw [← hg]; exact hy)) q.gens.length (Nat.le_refl _)
        have hp : procN q = { q with right := q.right ++ [(List.range q.gens.length).map fun y => ((posN (txs q) (textF (prodN q y)) : Nat) : Int)], done := q.done + 1 } := by
          unfold procN; rw [e]
        rw [hp]
        refine ⟨Nat.succ_pos _, ?_⟩
        have h3 : FP q 0 q.gens.length := by rw [hg]; exact hf
        have h4 := h3.push hI (row := (List.range q.gens.length).map fun y => ((posN (txs q) (textF (prodN q y)) : Nat) : Int)) (fun y j hy hm => by
          rw [List.getD_eq_getElem?_getD, List.getElem?_map, List.getElem?_range hy]
          show ((posN (txs q) (textF (compF (q.elems.getD q.done []) (q.gens.getD y []))) : Nat) : Int) = _
          rw [posN_mk h3 hI hm])
        have h5 := h4.turn
        show FP _ (q.done + 1) 0
        rw [h0]
        rw [h0] at h5
        exact h5
      · right
        obtain ⟨hfp, hrow⟩ := rowI hf hI hlt h0 q.gens.length (Nat.le_refl _)
        obtain ⟨hI1, hg1, hd1, hr1, hle, hrl, _⟩ := rowN_ok hI hlt q.gens.length (Nat.le_refl _)
        have hp : procN q = { (rowN q q.gens.length).1 with right := (rowN q q.gens.length).1.right ++ [(rowN q q.gens.length).2], done := (rowN q q.gens.length).1.done + 1 } := rfl
        rw [hp]
        refine ⟨Nat.succ_pos _, ?_⟩
        have h4 := hfp.push hI1 (row := (rowN q q.gens.length).2) (fun y j hy hm => by
          rw [hd1] at hm
          exact hrow y j (by rw [hg1] at hy; exact hy) hm)
        show FP _ ((rowN q q.gens.length).1.done + 1) 0
        rw [hd1]
        rw [hd1] at h4
        exact h4.turn' (by show _ = (rowN q q.gens.length).1.gens.length; rw [hg1])
theorem fp_end {G : List (List Int)} {n j : Nat} (hG : VG G n) (hn : (G.getD 0 []).length = n) (hf : finR (runK (begN G true) j)) : FP (runK (begN G true) j) (runK (begN G true) j).elems.length 0 := by
  have hf' : (runK (begN G true) j).done = (runK (begN G true) j).elems.length := hf
  rcases runK_fp hG hn j with ⟨h0, h, _⟩ | ⟨h0, h⟩
  · have := h.n0; omega
  · rw [hf'] at h; exact h
theorem FP.preC {r : Rn} {u x : Nat} (h : FP r u x) : ∀ i, i < r.elems.length → ∀ s t, r.words.getD i [] = s ++ t → ∃ j, j < r.elems.length ∧ r.words.getD j [] = s := by
  intro i
  induction i using Nat.strongRecOn with
  | _ i ih =>
    intro hi s t e
    rcases List.eq_nil_or_concat t with ht | ⟨t', a, ht⟩
    · subst ht; exact ⟨i, hi, by rw [e, List.append_nil]⟩
    · rw [List.concat_eq_append] at ht
      subst ht
      have h0 : 0 < i := by
        rcases Nat.eq_zero_or_pos i with h0 | h0
        · subst h0; rw [h.w0] at e; simp at e
        · exact h0
      obtain ⟨p, y, m, hp, hy, _, hw, _⟩ := h.ch i h0 hi
      rw [hw, ← List.append_assoc] at e
      obtain ⟨e1, _⟩ := List.append_inj' e rfl
      exact ih p hp (by omega) s t' e1
theorem FP.sufC {r : Rn} {u x : Nat} (h : FP r u x) : ∀ i, i < r.elems.length → ∀ s t, r.words.getD i [] = s ++ t → ∃ j, j < r.elems.length ∧ r.words.getD j [] = t := by
  intro i
  induction i using Nat.strongRecOn with
  | _ i ih =>
    intro hi s t e
    cases s with
    | nil => exact ⟨i, hi, e⟩
    | cons c s =>
      have h0 : 0 < i := by
        rcases Nat.eq_zero_or_pos i with h0 | h0
        · subst h0; rw [h.w0] at e; simp at e
        · exact h0
      obtain ⟨b, c', hb, _, hw⟩ := h.bh i h0 hi
      rw [hw, List.cons_append] at e
      exact ih b hb (by omega) s t (List.cons.inj e).2
/-- a word is the least one of an element exactly if no left side is a factor of it -/
theorem FP.irred {r : Rn} (h : FP r r.elems.length 0) (hL : r.gens.length ≤ 6) : ∀ (n : Nat) (v : List UInt8), v.length = n → okL r.gens.length v → (¬ (∃ e ∈ r.rules, e.1 <:+: v) ↔ ∃ i, i < r.elems.length ∧ r.words.getD i [] = v) := by
  intro n
  induction n using Nat.strongRecOn with
  | _ n ih =>
    intro v hn hv
    constructor
    · intro hno
      rcases List.eq_nil_or_concat v with ht | ⟨v', a, ht⟩
      · subst ht; exact ⟨0, h.n0, h.w0⟩
      · rw [List.concat_eq_append] at ht
        subst ht
        have hv' : okL r.gens.length v' := fun b hb => hv b (List.mem_append_left _ hb)
        obtain ⟨y, hy, rfl⟩ := hv a (List.mem_append_right _ (List.mem_singleton.2 rfl))
        obtain ⟨p, hp, hw⟩ := (ih v'.length (by simp at hn; omega) v' rfl hv').1 (fun ⟨e, he, hi⟩ => hno ⟨e, he, hi.trans (List.prefix_append _ _).isInfix⟩)
        rcases h.dc p y hp hy (.inl hp) with ⟨j, hj⟩ | ⟨e, he, h1⟩ | ⟨b, c, hb, hbw, hnm⟩
        · refine ⟨j, hj.2.1, ?_⟩
          obtain ⟨p', y', m', _, _, _, hw', _⟩ := h.ch j hj.1 hj.2.1
          have e1 : p' = p := by have := m'.2.2.1; have := hj.2.2.1; omega
          have e2 : y' = y := by have := m'.2.2.2; have := hj.2.2.2; omega
          rw [hw', e1, e2, hw]
        · exact absurd ⟨e, he, by rw [h1, hw]; exact List.infix_refl _⟩ hno
        · exfalso
          have hbv : v' = c :: r.words.getD b [] := by rw [← hw, hbw]
          have hlen : (r.words.getD b [] ++ [ltr y]).length < n := by rw [hbv] at hn; simp at hn ⊢; omega
          obtain ⟨j, hj, hjw⟩ := (ih _ hlen (r.words.getD b [] ++ [ltr y]) rfl (fun a ha => by
            rcases List.mem_append.1 ha with ha | ha
            · exact hv' a (by rw [hbv]; exact List.mem_cons_of_mem _ ha)
            · rw [List.mem_singleton] at ha; exact ⟨y, hy, ha⟩)).1 (fun ⟨e, he, hi⟩ => hno ⟨e, he, hi.trans (by rw [hbv]; exact (List.suffix_cons _ _).isInfix)⟩)
          exact hnm j (h.mk_of hL hj (by omega) (by omega) hjw)
    · rintro ⟨i, hi, hw⟩ ⟨e, he, s, t, hst⟩
      obtain ⟨p, y, i', hp, hy, _, h4, h5, _⟩ := h.ru e he
      obtain ⟨j, hj, hjw⟩ := h.preC i hi _ _ (hw.trans hst.symm)
      obtain ⟨k, hk, hkw⟩ := h.sufC j hj _ _ hjw
      rw [h4] at hkw
      exact h5 k (h.mk_of hL hk hp (by omega) hkw)
theorem okL_valid {L : Nat} (hL : 1 ≤ L ∧ L ≤ 6) {v : List UInt8} (h : okL L v) (hl : v.length ≤ 2048) : validW (L : Int) v = true := by
  refine validW_iff.2 ⟨⟨by omega, by omega, hl⟩, fun k hk => ?_⟩
  obtain ⟨y, hy, e⟩ := h _ (getD_mem (d := 0) hk)
  rw [e, ltr_toNat (by omega)]
  omega
theorem valid_okL {L : Nat} {v : List UInt8} (h : v.all (okB (L : Int)) = true) : okL L v := by
  intro a ha
  have h1 := List.all_eq_true.1 h a ha
  unfold okB at h1
  rw [decide_eq_true_eq] at h1
  refine ⟨a.toNat - 97, by omega, ?_⟩
  unfold ltr
  rw [show 97 + (a.toNat - 97) = a.toNat by omega, UInt8.ofNat_toNat]
theorem FP.vr {r : Rn} {u x k c : Nat} (h : FP r u x) (hI : RnI r k c) (hc : c ≤ 2000) : VR (r.gens.length : Int) r.rules := by
  have hg := hI.g.len
  have hle := hI.le
  have hru := hI.ru
  have hwl : ∀ i, i < r.elems.length → (r.words.getD i []).length ≤ 257 := fun i hi => by have := hI.ws i hi; omega
  refine ⟨by omega, by omega, fun e he => ?_⟩
  obtain ⟨p, y, i, hp, hy, hl, h4, h5, h6, h7, h8⟩ := h.ru e he
  have hok : okL r.gens.length e.1 := by
    rw [h4]
    intro a ha
    rcases List.mem_append.1 ha with ha | ha
    · exact h.okw p hp a ha
    · rw [List.mem_singleton] at ha; exact ⟨y, hy, ha⟩
  have h1 := hwl p hp
  have h2 := hwl i h6
  refine ⟨okL_valid (by omega) hok (by rw [h4, List.length_append, List.length_singleton]; omega), okL_valid (by omega) (by rw [h7]; exact h.okw i h6) (by rw [h7]; omega), ?_⟩
  rw [h7, h4]
  rcases Nat.eq_zero_or_pos i with h0 | h0
  · subst h0; rw [h.w0]; exact slx_iff.2 (.inl (by simp))
  · obtain ⟨q, z, m, _, _, _, hw, _⟩ := h.ch i h0 h6
    rw [hw]
    exact h.lt (by omega) hp hy (h8 q z m)
end Go.Sx

namespace Go.Sx
/-! ### which states are live, round by round -/
end Go.Sx

namespace Go.Sx
/-! ### the list of words is the beginning of all accepted words, by length and then by letters -/
end Go.Sx

namespace Go.Sx
/-! ### the list of words: accepted, ascending, nothing left out -/
theorem allW_srt {L : Nat} (hL : L ≤ 6) : ∀ n, (allW L n).Pairwise fun u v => Op.bytesLess u v = true
  | 0 => by simp [allW]
  | n + 1 => by
    simp only [allW]
    rw [List.pairwise_flatMap]
    refine ⟨fun c _ => ?_, ?_⟩
    · rw [List.pairwise_map]
      refine (allW_srt hL n).imp fun h => ?_
      simp [Op.bytesLess, h]
    · unfold lets
      rw [List.pairwise_map]
      refine List.Pairwise.imp_of_mem ?_ (List.pairwise_lt_range (n := L))
      intro a b ha hb hab x hx y hy
      obtain ⟨u, _, rfl⟩ := List.mem_map.1 hx
      obtain ⟨v, _, rfl⟩ := List.mem_map.1 hy
      rw [List.mem_range] at hb
      have : UInt8.ofNat (97 + a) < UInt8.ofNat (97 + b) := ltr_lt hab (by omega)
      simp only [Op.bytesLess, decide_eq_true this, Bool.true_or]
theorem allW_all {L : Nat} (hL : L ≤ 6) : ∀ (l : List UInt8), l.all (okB (L : Int)) = true → l ∈ allW L l.length
  | [], _ => by simp [allW]
  | c :: l, h => by
    rw [List.all_cons, Bool.and_eq_true] at h
    have hc := h.1
    simp only [okB, decide_eq_true_eq] at hc
    simp only [List.length_cons, allW, List.mem_flatMap, List.mem_map]
    refine ⟨c, ?_, l, allW_all hL l h.2, rfl⟩
    unfold lets; rw [List.mem_map]
    exact ⟨c.toNat - 97, by rw [List.mem_range]; omega, by apply UInt8.toNat_inj.1; rw [UInt8.toNat_ofNat']; have := c.toNat_lt; omega⟩
end Go.Sx

namespace Go.Sx
open Go.RowKit
/-! ### the automaton of the reduced words of an enumeration -/
theorem FP.wnd {r : Rn} {u x k c : Nat} (h : FP r u x) (hI : RnI r k c) : r.words.Nodup := by
  have hl := hI.wl
  have hg := hI.g.len
  unfold List.Nodup
  rw [List.pairwise_iff_getElem]
  intro i j hi hj hij e
  have e1 : r.words.getD i [] = r.words.getD j [] := by
    rw [List.getD_eq_getElem?_getD, List.getD_eq_getElem?_getD, List.getElem?_eq_getElem hi, List.getElem?_eq_getElem hj]; exact e
  have := h.winj (by omega) (by omega) (by omega) e1
  omega
theorem mem_words {r : Rn} {k c : Nat} (hI : RnI r k c) {v : List UInt8} : v ∈ r.words ↔ ∃ i, i < r.elems.length ∧ r.words.getD i [] = v := by
  have hl := hI.wl
  constructor
  · intro h
    obtain ⟨i, hi, e⟩ := mem_getD [] h
    exact ⟨i, by omega, e⟩
  · rintro ⟨i, hi, rfl⟩; exact getD_mem (by omega)
theorem fac_iff {rs : List Rul} {v : Wrd} : Fac rs v ↔ ∃ e ∈ rs, e.1 <:+: v := by
  constructor
  · rintro ⟨j, hj, h⟩; exact ⟨_, getD_mem hj, h⟩
  · rintro ⟨e, he, h⟩
    obtain ⟨j, hj, rfl⟩ := mem_getD ([], []) he
    exact ⟨j, hj, h⟩
structure NrmD (r : Rn) (d : Dfa) : Prop where
  vd : VD d
  L : d.L = (r.gens.length : Int)
  fin : ∀ v, Okw d v → (finQ d (runI d d.s v) = true ↔ v ∈ r.words)
theorem nrm_of {r : Rn} {k c : Nat} {d : Dfa} {e : Int} (h : FP r r.elems.length 0) (hI : RnI r k c) (hc : c ≤ 2000) (hP : IrrP (r.gens.length : Int) r.rules d e) : (e = 3 ∧ d = nilD) ∨ (e = 0 ∧ NrmD r d) := by
  have hV := h.vr hI hc
  have hE := errR_iff.2 hV
  have hg := hI.g.len
  rcases hP with ⟨h1, _⟩ | ⟨_, _, h2, h3⟩ | ⟨_, _, h2, c', hc', hcL, rfl, hi⟩
  · exact absurd hE h1
  · exact .inl ⟨h2, h3⟩
  · refine .inr ⟨h2, min_vd hc', hcL, fun v hv => ?_⟩
    have hv2 : Okw c' v := hv
    have hok : okL r.gens.length v := valid_okL (by rw [← hcL]; exact hv2)
    rw [min_lng hc' v hv, hi v hv2, isNone_fac hV, fac_iff, h.irred (by omega) _ v rfl hok, mem_words hI]
theorem NrmD.acc {r : Rn} {k c : Nat} {d : Dfa} (h : NrmD r d) (hf : FP r r.elems.length 0) (hI : RnI r k c) {i : Nat} (hi : i < r.elems.length) : AccV d (r.words.getD i []) = true := by
  have hg := hI.g.len
  have hw := hI.ws i hi
  have hle := hI.le
  have hv : validW d.L (r.words.getD i []) = true := by rw [h.L]; exact okL_valid (by omega) (hf.okw i hi) (by omega)
  rw [AccV_of h.vd hv]
  have hok : Okw d (r.words.getD i []) := by unfold validW at hv; rw [Bool.and_eq_true] at hv; exact hv.2
  exact (h.fin _ hok).2 ((mem_words hI).2 ⟨i, hi, rfl⟩)
theorem NrmD.inf {r : Rn} {k c : Nat} {d : Dfa} (h : NrmD r d) (hI : RnI r k c) : ¬ Cyc d := fun hc => by
  obtain ⟨m, hm, l, hl, ho, hf⟩ := long_of hc 1000
  obtain ⟨i, hi, e⟩ := (mem_words hI).1 ((h.fin l ho).1 hf)
  have h1 := hI.ws i hi
  have h2 := hI.le
  rw [e] at h1
  omega
theorem allW_nd {L : Nat} (hL : L ≤ 6) (n : Nat) : (allW L n).Nodup := by
  refine (allW_srt hL n).imp fun {a b} hab e => ?_
  subst e
  rw [bytesLess_irrefl] at hab; cases hab
def ofU (l : Nat) (w : List UInt8) : Bool := decide (w.length = l)
theorem NrmD.count {r : Rn} {k c : Nat} {d : Dfa} (h : NrmD r d) (hf : FP r r.elems.length 0) (hI : RnI r k c) {n : Nat} (hn : n ≤ 40) : CountV d n = ((r.words.countP (ofU n) : Nat) : Int) := by
  have hL := h.vd.L
  have hg := hI.g.len
  have hdl : d.L.toNat = r.gens.length := by rw [h.L, Int.toNat_natCast]
  have h1 := CountV_eqm h.vd (n := n) (by omega)
  have h2 : CN d n d.s.toNat = _ := CN_words h.vd n d.s h.vd.s
  rw [h2] at h1
  have e : (allW d.L.toNat n).countP (fun l => d.fin.getD (runI d d.s l).toNat false) = r.words.countP (ofU n) := by
    rw [List.countP_eq_length_filter, List.countP_eq_length_filter]
    refine List.Perm.length_eq ((List.perm_ext_iff_of_nodup ((allW_nd (by omega) n).filter _) ((hf.wnd hI).filter _)).2 fun v => ?_)
    rw [List.mem_filter, List.mem_filter]
    constructor
    · rintro ⟨hm, ha⟩
      obtain ⟨hl, hok⟩ := allW_ok (by omega) n v hm
      have hok2 : Okw d v := by unfold Okw; rw [show d.L = ((d.L.toNat : Nat) : Int) by omega]; exact hok
      exact ⟨(h.fin v hok2).1 ha, decide_eq_true hl⟩
    · rintro ⟨hm, hl⟩
      have hl := of_decide_eq_true hl
      obtain ⟨i, hi, ew⟩ := (mem_words hI).1 hm
      have hv : validW d.L v = true := by rw [h.L, ← ew]; exact okL_valid (by omega) (hf.okw i hi) (by have := hI.ws i hi; have := hI.le; omega)
      have hok : Okw d v := by unfold validW at hv; rw [Bool.and_eq_true] at hv; exact hv.2
      refine ⟨?_, (h.fin v hok).2 hm⟩
      have := allW_all (L := d.L.toNat) (by omega) v (by rw [show ((d.L.toNat : Nat) : Int) = d.L by omega]; exact hok)
      rw [hl] at this; exact this
  rw [e] at h1
  refine h1.eq (CountV_bd _ _) ⟨by omega, ?_⟩
  have h3 : r.words.countP (ofU n) ≤ r.words.length := List.countP_le_length
  have h4 := hI.wl
  have h5 := hI.le
  simp only [MM]; omega
def cntF (ws : List (List UInt8)) (k : Nat) : List Int := (List.range 40).map fun l => (((ws.take k).countP (ofU l) : Nat) : Int)
theorem cntF_len (ws : List (List UInt8)) (k : Nat) : (cntF ws k).length = 40 := by simp [cntF]
theorem cntF_zero (ws : List (List UInt8)) : cntF ws 0 = List.replicate 40 0 := by simp [cntF]; rfl
theorem cntF_get (ws : List (List UInt8)) (k : Nat) {l : Nat} (hl : l < 40) : (cntF ws k).getD l 0 = (((ws.take k).countP (ofU l) : Nat) : Int) := by
  simp [cntF, List.getD_eq_getElem?_getD, hl]
theorem cntF_bd (ws : List (List UInt8)) (k l : Nat) : 0 ≤ (cntF ws k).getD l 0 ∧ (cntF ws k).getD l 0 ≤ ws.length := by
  by_cases hl : l < 40
  · rw [cntF_get ws k hl]
    have h1 : (ws.take k).countP (ofU l) ≤ (ws.take k).length := List.countP_le_length
    rw [List.length_take] at h1; omega
  · rw [List.getD_eq_getElem?_getD, List.getElem?_eq_none (by rw [cntF_len]; omega)]; simp
theorem cntF_step {ws : List (List UInt8)} {k : Nat} (hk : k < ws.length) : cntF ws (k + 1) = (cntF ws k).set (ws.getD k []).length ((cntF ws k).getD (ws.getD k []).length 0 + 1) := by
  apply List.ext_getElem?
  intro i
  have e : ∀ k, (cntF ws k)[i]? = if i < 40 then some (((ws.take k).countP (ofU i) : Nat) : Int) else none := fun k => by
    by_cases hi : i < 40
    · simp [cntF, hi]
    · rw [if_neg hi, List.getElem?_eq_none (by rw [cntF_len]; omega)]
  rw [e (k + 1), List.getElem?_set, cntF_len, e k]
  by_cases hi : i < 40
  · rw [if_pos hi, if_pos hi, take_snocD [] ws k hk, List.countP_append, List.countP_singleton]
    by_cases h : (ws.getD k []).length = i
    · rw [if_pos h, h, if_pos hi, cntF_get ws k hi, show ofU i (ws.getD k []) = true from decide_eq_true h]; simp
    · rw [if_neg h, show ofU i (ws.getD k []) = false from decide_eq_false h]; simp
  · rw [if_neg hi, if_neg hi]
    split
    · rw [if_neg (by omega)]
    · rfl
theorem cntF_all {r : Rn} {k c : Nat} {d : Dfa} (h : NrmD r d) (hf : FP r r.elems.length 0) (hI : RnI r k c) {n : Nat} (hn : n < 40) : (cntF r.words r.elems.length).getD n 0 = CountV d n := by
  rw [cntF_get _ _ hn, h.count hf hI (by omega), List.take_of_length_le (by have := hI.wl; omega)]
/-- at three points the words have fewer than 40 letters -/
theorem RnI.le3 {r : Rn} {k c : Nat} (h : RnI r k c) (h3 : r.pts ≤ 3) : r.elems.length ≤ 27 := by
  have hp := h.g.pts
  have h1 : (txs r).length ≤ (allT r.pts r.pts).length := nodup_sub_len h.nd fun y hy => by
    obtain ⟨f, hf, rfl⟩ := List.mem_map.1 hy
    obtain ⟨i, hi, e⟩ := List.getElem_of_mem hf
    have hv := h.el i hi
    rw [List.getD_eq_getElem?_getD, List.getElem?_eq_getElem hi, Option.getD_some, e] at hv
    have := allT_mem r.pts f hv.mem
    rw [hv.1] at this; exact this
  rw [txs_len, allT_len] at h1
  have h2 : r.pts = 1 ∨ r.pts = 2 ∨ r.pts = 3 := by omega
  rcases h2 with e | e | e <;> rw [e] at h1 <;> omega
theorem rightB_3 {G : List (List Int)} (h : rightB G 3 = true) : rightB G 4 = true ∧ (G.getD 0 []).length ≤ 3 := by
  unfold rightB at *
  simp only [Bool.and_eq_true, decide_eq_true_eq] at *
  obtain ⟨h1, h2, h3⟩ := h
  exact ⟨⟨h1, h2, by omega⟩, by omega⟩
theorem Way.b2 {q : Rn} (h : Way q) : q.gens.length * (q.done + 1) ≤ 2000 := by
  have h1 := h.ok.g.len
  have h2 := h.ok.le
  have h3 := h.ok.dn
  have h4 : q.gens.length * (q.done + 1) ≤ 2 * 257 := Nat.mul_le_mul (by omega) (by omega)
  omega
theorem vr_hll {L : Int} {rs : List Rul} (h : VR L rs) : ∀ k, k < rs.length → (rs.getD k ([], [])).1.length ≤ 9223372036854775807 ∧ (rs.getD k ([], [])).2.length ≤ 9223372036854775807 := fun k hk => by
  obtain ⟨h1, h2, _⟩ := h.v _ (getD_mem (d := ([], [])) hk)
  have := (validW_iff.1 h1).1
  have := (validW_iff.1 h2).1
  omega
end Go.Sx

namespace Go.Proofs.YtdnhiinakhmhgaaGreatDoor
open Go.Sx Go.RowKit
set_option maxHeartbeats 4000000 in
theorem l_normal (w : World) (v : Value) (G : List (List Int)) (h : RdLL (fun _ => False) (Value.int .i64) w v G) (hT : TbA w) : CallS Tryz.prog 5 [v] w (fun r o => r = .bool true ∧ o = []) := by
 have h0 := h
 obtain ⟨gs0, hgl0, hg1, hg2⟩ := h
 have hmg := Rd.le hg1
 refine spec_of Tryz.func5 rfl (leb rfl) ?_
 refine .sr fun _ hK1 => ?_
 refine .as rfl (.nt hK1 ?_)
 refine .seq fun _ hK2 => ?_
 refine .sr fun _ hK3 => ?_
 refine .mv rfl ?_
 refine AK.call co6 rfl (fun w hw => s_right w v G (h0.at hw) 3) trivial rfl ?_
 rintro r o ⟨rfl, rfl⟩
 refine .v (.not rfl) (.nt hK3 ?_)
 refine AK.condB rfl (fun hc0 => ?_) (fun hc0 => ?_)
 ·refine .sr fun _ hK4 => ?_
  refine AK.call co7 rfl (fun w hw => s_awake w (hT.at hw)) trivial rfl ?_
  rintro r o ⟨rfl, rfl⟩
  refine .as rfl (.nt hK4 (.ret (.then_ret ?_)))
  refine AK.ret1 rfl rfl (fun w hw => ⟨_, _, ?_, rfl, Ret.of (hw.pick [] (by decide) rfl rfl)⟩)
  exact ⟨rfl, rfl⟩
 ·have hr : rightB G 3 = true := by simpa using hc0
  obtain ⟨hr4, hp3⟩ := rightB_3 hr
  have hG := rightB_VG hr4
  have hb0 := begN_ok hG true rfl
  have hbI : RnI (begN G true) (begN G true).gens.length G.length := by rw [hb0.2]; exact hb0.1
  have hfin : finR (runK (begN G true) 257) := runK_ends hbI (Nat.le_refl _)
  have hWQ := Go.Sx.Way.run hG true rfl 257
  have hfp := fp_end hG rfl hfin
  obtain ⟨kp, _, kg⟩ := runK_keep (begN G true) 257
  obtain ⟨bp, _, bg, _⟩ := begK_keep G true G.length
  have hgl := kg.trans bg
  have hpt := kp.trans bp
  obtain ⟨Q, hQ⟩ : ∃ q, runK (begN G true) 257 = q := ⟨_, rfl⟩
  rw [hQ] at hWQ hfin hfp hgl hpt
  have hI := hWQ.ok
  have hcb := hWQ.b2
  have hle := hI.le3 (by omega)
  have hwl := hI.wl
  have hll := vr_hll (hfp.vr hI hcb)
  have hn0 := hfp.n0
  have hru := hI.ru
  refine .skip ?_
  refine AK.then_ (hK2 _ ?_)
  refine .sr fun _ hK5 => ?_
  refine .mv rfl ?_
  refine AK.call co11 rfl (fun w hw => s_ebuild w v G (h0.at hw) _ hG rfl true Q hQ) trivial rfl ?_
  rintro r o ⟨m, rfl, hF, rfl⟩
  refine .mv rfl (.v (.extract rfl rfl) (.v (.extract rfl rfl) ?_))
  refine AK.alloc el29 rfl rfl trivial rfl (fun bx3 => ?_)
  refine AK.storeBox 1 (us := (enC m Q)) (cs' := (enC m Q)) rfl sz29 rfl rfl rfl rfl (enC_one hF) (leb rfl) rfl trivial ?_
  refine .as rfl ?_
  refine AK.own' [row m.vG 26 1 Q.gens.length m.gs, bigA (matG (Value.int .i64) 3 m.gs Q.gens), row m.vE 26 1 Q.elems.length m.es, bigA (matG (Value.int .i64) 3 m.es Q.elems), row m.vP 3 1 Q.pre.length (Q.pre.map (Value.int .i64)), row m.vL 3 1 Q.las.length (Q.las.map (Value.int .i64)), row m.vR 26 1 Q.right.length m.rs, bigA (matG (Value.int .i64) 3 m.rs Q.right), row m.vU 39 2 Q.rules.length (rlc Q.rules), box bx3 29 9 (enC m Q)] (fun w hw => HW.flat (l := enS 26 3 39 m Q) (own := [_]) hw) ?_
  refine .nt hK5 ?_
  refine .sr fun _ hK6 => ?_
  refine .v (.fieldAddr fd29_7 rfl) (.v (.loadBox on27 rfl bsp rfl) (.mv rfl (.v (.lenR sl22 rfl rdp) ?_)))
  refine AK.call co23 rfl (fun w hw => s_irred w m.vU Q.rules (RdR.own 8 hw rfl) hll (G.length : Int)) trivial rfl ?_
  rintro r o ⟨d1, e1, aF, aN, as1, hI1, rfl, has, saF, saN, rfl⟩
  have hN := nrm_of hfp hI hcb (by rw [hgl]; exact hI1)
  refine .mv rfl (.v (.extract rfl rfl) (.v (.extract rfl rfl) ?_))
  refine AK.alloc el43 rfl rfl trivial rfl (fun bx5 => ?_)
  refine AK.storeBox 13 (us := [.int .i64 d1.L, .int .i64 d1.s, aF, aN]) (cs' := [.int .i64 d1.L, .int .i64 d1.s, aF, aN]) rfl sz43 rfl rfl rfl rfl oneP (leb rfl) rfl trivial ?_
  refine .as rfl (.nt hK6 ?_)
  refine .seq fun _ hK7 => ?_
  refine .sr fun _ hK8 => ?_
  refine .mv rfl (.v (.neq rfl rfl) (.mv rfl ?_))
  refine AK.knownF (g := 31) rfl (rfl) (fun hg_5_2 => ?_)
  refine AK.val _ (Yl.move rfl) ⟨_, rfl, gB hg_5_2⟩ rfl ?_
  refine AK.val _ (Yl.neq rfl rfl) ⟨_, rfl, gB hg_5_2⟩ rfl ?_
  refine .v (.pickF rfl (hg_5_2) rfl) (.nt hK8 ?_)
  refine AK.condNe rfl (fun hc1 => ?_) (fun hc1 => ?_)
  ·have he : e1 = 3 := by
    rcases hN with h | h
    ·exact h.1
    ·exact absurd h.1 hc1
   refine .sr fun _ hK9 => ?_
   refine .mv rfl (.v (.eql rfl rfl) (.mv rfl ?_))
   refine AK.knownT (g := 37) rfl (rfl) (fun hg_6_2 => ?_)
   refine AK.val _ (Yl.move rfl) ⟨_, rfl, gB hg_6_2⟩ rfl ?_
   refine AK.val _ (Yl.eql rfl rfl) ⟨_, rfl, gB hg_6_2⟩ rfl ?_
   refine .v (.pickT rfl (hg_6_2) rfl) (.mv rfl ?_)
   refine AK.knownT (g := 41) rfl (decide_eq_true he) (fun hg_6_6 => ?_)
   refine AK.call co7 rfl (fun w hw => s_awake w (hT.at hw)) ⟨_, rfl, gB hg_6_6⟩ rfl ?_
   rintro r o ⟨rfl, rfl⟩
   refine .v (.pickT rfl (hg_6_6) rfl) (.as rfl (.nt hK9 (.ret (.then_ret ?_))))
   refine AK.ret1 rfl rfl (fun w hw => ⟨_, _, ?_, rfl, Ret.of (hw.pick [] (by decide) rfl rfl)⟩)
   exact ⟨rfl, rfl⟩
  ·have hD : NrmD Q d1 := by
    rcases hN with h | h
    ·exact absurd h.1 (by omega)
    ·exact h.2
   have hinf : InfV d1 = false := by
    rw [Bool.eq_false_iff]; exact fun hc => hD.inf hI (infV_iff.1 hc).2
   refine .skip ?_
   refine AK.then_ (hK7 _ ?_)
   refine .sr fun _ hK10 => ?_
   refine AK.make1 (n := 40) sl26 el3 rfl rfl rfl (by omega) (by omega) trivial rfl (fun mv0 => ?_)
   refine .as rfl (.nt hK10 ?_)
   refine .seq fun _ hK11 => ?_
   refine .sr fun _ hK12 => ?_
   refine .v (.fieldAddr fd29_3 rfl) (.v (.loadBox on22 rfl bsp rfl) (.v (.lenR sl22 rfl rdp) (.mv rfl (.nt hK12 (.block ?_)))))
   refine AK.loopK (X := Nat) [(3, _), (5, _), (7, _), (47, _)] (fun k => [(48, .int .i64 (k : Int))]) (fun k => [row m.vG 26 1 Q.gens.length m.gs, bigA (matG (Value.int .i64) 3 m.gs Q.gens), row m.vE 26 1 Q.elems.length m.es, bigA (matG (Value.int .i64) 3 m.es Q.elems), row m.vP 3 1 Q.pre.length (Q.pre.map (Value.int .i64)), row m.vL 3 1 Q.las.length (Q.las.map (Value.int .i64)), row m.vR 26 1 Q.right.length m.rs, bigA (matG (Value.int .i64) 3 m.rs Q.right), row m.vU 39 2 Q.rules.length (rlc Q.rules), box bx3 29 9 (enC m Q), row aF 4 1 d1.fin.length (d1.fin.map Value.bool), row aN 26 1 d1.nx.length as1, bigA (matG (Value.int .i64) 3 as1 d1.nx), box bx5 43 4 [.int .i64 d1.L, .int .i64 d1.s, aF, aN], row mv0 3 1 40 ((cntF Q.words k).map (Value.int .i64))]) (fun k => k ≤ Q.elems.length) (fun k => Q.elems.length - k) (0) slr ?_ ?_ ?_ ?_
   ·exact Nat.zero_le _
   ·exact slr
   ·exact fun w hw => by rw [cntF_zero, List.map_replicate]; exact hw
   ·intro k hg0 _ hK13
    refine .sr fun _ hK14 => ?_
    refine .v (.lss rfl rfl) (.nt hK14 ?_)
    refine .seq fun _ hK15 => ?_
    refine AK.condD rfl (fun hc2 => ?_) (fun hc2 => ?_)
    ·have hws := hI.ws k (by omega)
     have hac := hD.acc hfp hI (i := k) (by omega)
     have hcb1 := cntF_bd Q.words k (Q.words.getD k []).length
     have hcl := cntF_len Q.words k
     refine .skip ?_
     refine AK.then_ (hK15 _ ?_)
     refine .seq fun _ hK16 => ?_
     refine .block ?_
     refine .sr fun _ hK17 => ?_
     refine .mv rfl (.as rfl (.nt hK17 ?_))
     refine .sr fun _ hK18 => ?_
     refine AK.val (.agg (enC m Q).toArray) (Yl.loadBoxG (cs := enC m Q) (us := enC m Q) ag29 rfl bsp rfl rfl) trivial rfl ?_
     refine .mv rfl ?_
     refine AK.call co24 rfl (fun w hw => s_eword w _ Q (RdEn.own (TRI := 26) (TI := 3) (TRU := 39) 0 (hw.pick [0, 1, 2, 3, 4, 5, 6, 7, 8] (by decide) (show enS 26 3 39 m Q = _ from rfl) rfl) hF (fun k hk => by rw [Nat.zero_add])) hWQ k (by omega)) trivial rfl ?_
     rintro r o ⟨rfl, rfl⟩
     refine .as rfl (.nt hK18 ?_)
     refine .seq fun _ hK19 => ?_
     refine .sr fun _ hK20 => ?_
     refine .v (.loadBoxG ag43 rfl bsp rfl rfl) (.mv rfl ?_)
     refine AK.call co25 rfl (fun w hw => s_acc w _ d1 (RdD.own 10 hw has rfl rfl rfl) (Q.words.getD k []) (by omega)) trivial rfl ?_
     rintro r o ⟨rfl, rfl⟩
     refine .v (.not rfl) (.mv rfl ?_)
     refine AK.knownF (g := 58) rfl (by rw [hac]; rfl) (fun hg_12_4 => ?_)
     refine AK.val _ (Yl.move rfl) ⟨_, rfl, gB hg_12_4⟩ rfl ?_
     refine AK.val _ (Yl.lenS un9 rfl) ⟨_, rfl, gB hg_12_4⟩ rfl ?_
     refine AK.val _ (Yl.move rfl) ⟨_, rfl, gB hg_12_4⟩ rfl ?_
     refine AK.val _ (Yl.lenR sl26 rfl rdp) ⟨_, rfl, gB hg_12_4⟩ rfl ?_
     refine AK.val _ (Yl.geq rfl rfl) ⟨_, rfl, gB hg_12_4⟩ rfl ?_
     refine .v (.pickF rfl (hg_12_4) rfl) (.nt hK20 ?_)
     refine AK.cond_f rfl (decide_eq_false (by omega)) ?_
     refine .skip ?_
     refine AK.then_ (hK19 _ ?_)
     refine AK.region ?_
     refine .mv rfl (.mv rfl (.v (.lenS un9 rfl) ?_))
     first | refine .v (.iN sl26 rfl rfl) ?_ | refine .v (.iK sl26 rfl rfl) ?_
     refine .v (.loadI on3 rfl rdp (by omega)) ?_
     refine .v (.add rfl rfl (by omega)) ?_
     first | refine .v (.iN sl26 rfl rfl) ?_ | refine .v (.iK sl26 rfl rfl) ?_
     refine AK.store1e 14 rfl sz3 rfl rfl rfl rfl (by omega) (cs' := (cntF Q.words (k + 1)).map (Value.int .i64)) (by rw [cntF_step (by omega), List.map_set]) trivial ?_
     refine .nil (.block_normal ?_)
     refine AK.then_ (hK16 _ ?_)
     refine AK.region ?_
     refine .v (.add rfl rfl (by omega)) ?_
     refine .mv rfl (.nil ?_)
     refine AK.then_ (hK13 _ _ (k + 1) (by omega) (by omega) (slr) (fun w hw => hw))
    ·obtain rfl : k = Q.elems.length := by omega
     have hcl := cntF_len Q.words Q.elems.length
     refine .exit (.then_exit (.then_exit (.block_exit ?_)))
     refine AK.then_ (hK11 _ ?_)
     refine .seq fun _ hK21 => ?_
     refine .sr fun _ hK22 => ?_
     refine .mv rfl (.v (.lenR sl26 rfl rdp) (.mv rfl (.nt hK22 (.block ?_))))
     refine AK.loopK (X := Nat) [(3, _), (5, _), (73, _), (74, _)] (fun n => [(75, .int .i64 (n : Int))]) (fun n => [row m.vG 26 1 Q.gens.length m.gs, bigA (matG (Value.int .i64) 3 m.gs Q.gens), row m.vE 26 1 Q.elems.length m.es, bigA (matG (Value.int .i64) 3 m.es Q.elems), row m.vP 3 1 Q.pre.length (Q.pre.map (Value.int .i64)), row m.vL 3 1 Q.las.length (Q.las.map (Value.int .i64)), row m.vR 26 1 Q.right.length m.rs, bigA (matG (Value.int .i64) 3 m.rs Q.right), row m.vU 39 2 Q.rules.length (rlc Q.rules), box bx3 29 9 (enC m Q), row aF 4 1 d1.fin.length (d1.fin.map Value.bool), row aN 26 1 d1.nx.length as1, bigA (matG (Value.int .i64) 3 as1 d1.nx), box bx5 43 4 [.int .i64 d1.L, .int .i64 d1.s, aF, aN], row mv0 3 1 40 ((cntF Q.words Q.elems.length).map (Value.int .i64))]) (fun n => n ≤ 40) (fun n => 40 - n) (0) slr ?_ ?_ ?_ ?_
     ·exact Nat.zero_le _
     ·exact slr
     ·exact fun w hw => hw
     ·intro n hg1 _ hK23
      refine .sr fun _ hK24 => ?_
      refine .v (.lss rfl rfl) (.nt hK24 ?_)
      refine .seq fun _ hK25 => ?_
      refine AK.condD rfl (fun hc4 => ?_) (fun hc4 => ?_)
      ·have hca := cntF_all hD hfp hI (n := n) (by omega)
       refine .skip ?_
       refine AK.then_ (hK25 _ ?_)
       refine .seq fun _ hK26 => ?_
       refine .block ?_
       refine .sr fun _ hK27 => ?_
       refine .mv rfl ?_
       first | refine .v (.iN sl26 rfl rfl) ?_ | refine .v (.iK sl26 rfl rfl) ?_
       refine .v (.loadI on3 rfl rdp (by omega)) ?_
       refine .as rfl (.as rfl (.nt hK27 ?_))
       refine .sr fun _ hK28 => ?_
       refine .v (.loadBoxG ag43 rfl bsp rfl rfl) (.mv rfl ?_)
       refine AK.call co26 rfl (fun w hw => s_count w _ d1 (RdD.own 10 hw has rfl rfl rfl) (n : Int)) trivial rfl ?_
       rintro r o ⟨rfl, rfl⟩
       refine .mv rfl (.v (.neq rfl rfl) (.nt hK28 ?_))
       refine AK.cond_f rfl (decide_eq_false (not_not_intro hca.symm)) ?_
       refine .skip (.block_normal ?_)
       refine AK.then_ (hK26 _ ?_)
       refine AK.region ?_
       refine .v (.add rfl rfl (by omega)) ?_
       refine .mv rfl (.nil ?_)
       refine AK.then_ (hK23 _ _ (n + 1) (by omega) (by omega) (slr) (fun w hw => hw))
      ·refine .exit (.then_exit (.then_exit (.block_exit ?_)))
       refine AK.then_ (hK21 _ ?_)
       refine .sr fun _ hK29 => ?_
       refine .v (.loadBoxG ag43 rfl bsp rfl rfl) ?_
       refine AK.call co22 rfl (fun w hw => s_validate w _ d1 (RdD.own 10 hw has rfl rfl rfl)) trivial rfl ?_
       rintro r o ⟨rfl, rfl⟩
       refine .v (.eql rfl rfl) (.mv rfl ?_)
       refine AK.knownT (g := 89) rfl (decide_eq_true ((errV_iff d1).2 hD.vd)) (fun hg_22_3 => ?_)
       refine AK.val _ (Yl.loadBoxG ag43 rfl bsp rfl rfl) ⟨_, rfl, gB hg_22_3⟩ rfl ?_
       refine AK.call co27 rfl (fun w hw => s_infinite w _ d1 (RdD.own 10 hw has rfl rfl rfl)) ⟨_, rfl, gB hg_22_3⟩ rfl ?_
       rintro r o ⟨rfl, rfl⟩
       refine AK.val _ (Yl.not rfl) ⟨_, rfl, gB hg_22_3⟩ rfl ?_
       refine .v (.pickT rfl (hg_22_3) rfl) (.mv rfl ?_)
       refine AK.knownT (g := 94) rfl (by rw [hinf]; rfl) (fun hg_22_8 => ?_)
       refine AK.val _ (Yl.fieldAddr fd29_3 rfl) ⟨_, rfl, gB hg_22_8⟩ rfl ?_
       refine AK.val _ (Yl.loadBox on22 rfl bsp rfl) ⟨_, rfl, gB hg_22_8⟩ rfl ?_
       refine AK.val _ (Yl.lenR sl22 rfl rdp) ⟨_, rfl, gB hg_22_8⟩ rfl ?_
       refine AK.val _ (Yl.gtr rfl rfl) ⟨_, rfl, gB hg_22_8⟩ rfl ?_
       refine .v (.pickT rfl (hg_22_8) rfl) (.mv rfl ?_)
       refine AK.knownT (g := 100) rfl (decide_eq_true (by omega)) (fun hg_22_14 => ?_)
       refine AK.call co7 rfl (fun w hw => s_awake w (hT.at hw)) ⟨_, rfl, gB hg_22_14⟩ rfl ?_
       rintro r o ⟨rfl, rfl⟩
       refine .v (.pickT rfl (hg_22_14) rfl) (.as rfl (.nt hK29 (.ret ?_)))
       refine AK.ret1 rfl rfl (fun w hw => ⟨_, _, ?_, rfl, Ret.of (hw.pick [] (by decide) rfl rfl)⟩)
       exact ⟨rfl, rfl⟩

end Go.Proofs.YtdnhiinakhmhgaaGreatDoor
