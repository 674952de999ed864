import Derived.Test.YtaeojcaidcjnaaaRr
set_option linter.unusedVariables false
set_option linter.unusedSimpArgs false
namespace Go.Sx
open Go.RowKit
/-! ### steps at any place -/
def Stp (rs : List Rul) (u v : Wrd) : Prop := ∃ x y r, r ∈ rs ∧ u = x ++ r.1 ++ y ∧ v = x ++ r.2 ++ y
inductive Stps (rs : List Rul) : Wrd → Wrd → Prop
  | nil (u : Wrd) : Stps rs u u
  | cons {u v w : Wrd} : Stp rs u v → Stps rs v w → Stps rs u w
theorem Stp.ctx {rs : List Rul} {u v : Wrd} (h : Stp rs u v) (x y : Wrd) : Stp rs (x ++ u ++ y) (x ++ v ++ y) := by
  obtain ⟨a, b, r, hr, rfl, rfl⟩ := h
  exact ⟨x ++ a, b ++ y, r, hr, by simp, by simp⟩
theorem Stps.trans {rs : List Rul} {u v w : Wrd} (h : Stps rs u v) (k : Stps rs v w) : Stps rs u w := by
  induction h with
  | nil => exact k
  | cons h1 _ ih => exact .cons h1 (ih k)
theorem Stps.ctx {rs : List Rul} {u v : Wrd} (h : Stps rs u v) (x y : Wrd) : Stps rs (x ++ u ++ y) (x ++ v ++ y) := by
  induction h with
  | nil => exact .nil _
  | cons h1 _ ih => exact .cons (h1.ctx x y) ih
theorem Stp.one {rs : List Rul} {u v : Wrd} (h : Stp rs u v) : Stps rs u v := .cons h (.nil _)
def Nf (rs : List Rul) (u : Wrd) : Prop := ∀ v, ¬ Stp rs u v
theorem once_stp {rs : List Rul} {u v : Wrd} (h : once rs u = some v) : Stp rs u v := by
  obtain ⟨i, r, h1, h2, h3, rfl⟩ := once_shape h
  obtain ⟨t, ht⟩ := h2
  refine ⟨u.take i, u.drop (i + r.1.length), r, h1, ?_, rfl⟩
  have e : u.drop (i + r.1.length) = t := by rw [← List.drop_drop, ← ht, List.drop_left]
  rw [e, List.append_assoc, ht, List.take_append_drop]
theorem once_nf {L : Int} {rs : List Rul} (hV : VR L rs) {u : Wrd} (h : once rs u = none) : Nf rs u := by
  rintro v ⟨x, y, r, hr, rfl, _⟩
  obtain ⟨j, hj, e⟩ := mem_getD ([], []) hr
  have hne := (hV.left hj).1
  rw [e] at hne
  have hp := List.length_pos_iff.2 hne
  have := ruleAt_none_iff.1 (once_none.1 h x.length (by simp; omega)) j hj
  rw [e] at this
  apply this
  rw [List.append_assoc, List.drop_left]
  exact List.prefix_append _ _
theorem redF_stps {L : Int} {rs : List Rul} (hV : VR L rs) : ∀ (f : Nat) {u v : Wrd}, redF rs f u = some v → Stps rs u v ∧ Nf rs v
  | f, u, v, h => by
    cases ho : once rs u with
    | none =>
      rw [redF_none ho] at h
      cases h
      exact ⟨.nil _, once_nf hV ho⟩
    | some w =>
      cases f with
      | zero => rw [redF_zero ho] at h; cases h
      | succ f =>
        rw [redF_some ho] at h
        obtain ⟨h1, h2⟩ := redF_stps hV f h
        exact ⟨.cons (once_stp ho) h1, h2⟩
/-! ### a measure -/
def wv : Wrd → Nat
  | [] => 0
  | c :: u => c.toNat * 256 ^ u.length + wv u
theorem wv_app : ∀ (a b : Wrd), wv (a ++ b) = wv a * 256 ^ b.length + wv b
  | [], b => by simp [wv]
  | c :: a, b => by
    show c.toNat * 256 ^ (a ++ b).length + wv (a ++ b) = (c.toNat * 256 ^ a.length + wv a) * 256 ^ b.length + wv b
    rw [wv_app a b, List.length_append, Nat.pow_add, Nat.add_mul, Nat.mul_assoc, Nat.add_assoc]
theorem wv_lt : ∀ (u : Wrd), wv u < 256 ^ u.length
  | [] => by simp [wv]
  | c :: u => by
    have h1 := wv_lt u
    have h2 : c.toNat < 256 := c.toNat_lt
    show c.toNat * 256 ^ u.length + wv u < 256 ^ (u.length + 1)
    rw [Nat.pow_succ]
    have h3 : (c.toNat + 1) * 256 ^ u.length ≤ 256 * 256 ^ u.length := Nat.mul_le_mul_right _ h2
    rw [Nat.add_mul, Nat.one_mul] at h3
    rw [Nat.mul_comm (256 ^ u.length)]
    omega
theorem wv_bl : ∀ (u v : Wrd), u.length = v.length → Op.bytesLess u v = true → wv u < wv v
  | [], [], _, h => by simp [Op.bytesLess] at h
  | [], _ :: _, h, _ => by simp at h
  | _ :: _, [], h, _ => by simp at h
  | a :: u, b :: v, hl, h => by
    have hl' : u.length = v.length := by simpa using hl
    simp only [Op.bytesLess, Bool.or_eq_true, Bool.and_eq_true, decide_eq_true_eq, beq_iff_eq] at h
    show a.toNat * 256 ^ u.length + wv u < b.toNat * 256 ^ v.length + wv v
    rw [hl']
    rcases h with h | ⟨rfl, h⟩
    · have h1 := wv_lt u
      rw [hl'] at h1
      have h2 : a.toNat + 1 ≤ b.toNat := UInt8.lt_iff_toNat_lt.1 h
      have h3 : (a.toNat + 1) * 256 ^ v.length ≤ b.toNat * 256 ^ v.length := Nat.mul_le_mul_right _ h2
      rw [Nat.add_mul, Nat.one_mul] at h3
      omega
    · have := wv_bl u v hl' h
      omega
def mu (u : Wrd) : Nat := 256 ^ u.length + wv u
theorem mu_lt {L : Int} {rs : List Rul} (hV : VR L rs) {u v : Wrd} (h : Stp rs u v) : mu v < mu u := by
  obtain ⟨x, y, r, hr, rfl, rfl⟩ := h
  have hs := slx_iff.1 (hV.v r hr).2.2
  unfold mu
  rcases hs with hs | ⟨hl, hs⟩
  · have h1 := wv_lt (x ++ r.2 ++ y)
    have h2 : (x ++ r.2 ++ y).length + 1 ≤ (x ++ r.1 ++ y).length := by simp; omega
    have h3 : 256 ^ ((x ++ r.2 ++ y).length + 1) ≤ 256 ^ (x ++ r.1 ++ y).length := Nat.pow_le_pow_right (by omega) h2
    rw [Nat.pow_succ] at h3
    omega
  · have h1 := wv_bl _ _ hl hs
    have h2 : (x ++ r.2 ++ y).length = (x ++ r.1 ++ y).length := by simp; omega
    rw [h2, wv_app, wv_app, wv_app, wv_app, hl]
    have hp : 0 < 256 ^ y.length := Nat.pow_pos (by omega)
    have h3 : (wv x * 256 ^ r.1.length + wv r.2) * 256 ^ y.length < (wv x * 256 ^ r.1.length + wv r.1) * 256 ^ y.length := Nat.mul_lt_mul_of_pos_right (by omega) hp
    omega
theorem nf_ex {L : Int} {rs : List Rul} (hV : VR L rs) : ∀ (n : Nat) (u : Wrd), mu u ≤ n → ∃ v, Stps rs u v ∧ Nf rs v := by
  intro n
  induction n with
  | zero =>
    intro u hu
    refine ⟨u, .nil _, fun v hv => ?_⟩
    have := mu_lt hV hv
    omega
  | succ n ih =>
    intro u hu
    by_cases h : ∃ v, Stp rs u v
    · obtain ⟨v, hv⟩ := h
      have := mu_lt hV hv
      obtain ⟨w, h1, h2⟩ := ih v (by omega)
      exact ⟨w, .cons hv h1, h2⟩
    · exact ⟨u, .nil _, fun v hv => h ⟨v, hv⟩⟩
def LC (rs : List Rul) : Prop := ∀ u a b, Stp rs u a → Stp rs u b → ∃ c, Stps rs a c ∧ Stps rs b c
/-- one result alone -/
theorem nf_uniq {L : Int} {rs : List Rul} (hV : VR L rs) (hC : LC rs) : ∀ (n : Nat) (u a b : Wrd), mu u ≤ n → Stps rs u a → Stps rs u b → Nf rs a → Nf rs b → a = b := by
  intro n
  induction n with
  | zero =>
    intro u a b hu h1 h2 _ _
    cases h1 with
    | nil => cases h2 with
      | nil => rfl
      | cons k _ => have := mu_lt hV k; omega
    | cons k _ => have := mu_lt hV k; omega
  | succ n ih =>
    intro u a b hu h1 h2 h3 h4
    cases h1 with
    | nil => cases h2 with
      | nil => rfl
      | cons k _ => exact absurd k (h3 _)
    | @cons _ p _ k1 k2 => cases h2 with
      | nil => exact absurd k1 (h4 _)
      | @cons _ q _ l1 l2 =>
        obtain ⟨c, c1, c2⟩ := hC u p q k1 l1
        obtain ⟨d, d1, d2⟩ := nf_ex hV (mu c) c (Nat.le_refl _)
        have m1 := mu_lt hV k1
        have m2 := mu_lt hV l1
        rw [ih p a d (by omega) k2 (c1.trans d1) h3 d2, ih q b d (by omega) l2 (c2.trans d1) h4 d2]
theorem nf_one {L : Int} {rs : List Rul} (hV : VR L rs) (hC : LC rs) {u a b : Wrd} (h1 : Stps rs u a) (h2 : Stps rs u b) (h3 : Nf rs a) (h4 : Nf rs b) : a = b :=
  nf_uniq hV hC (mu u) u a b (Nat.le_refl _) h1 h2 h3 h4
/-! ### critical pairs suffice -/
theorem up_mem {P : Nat → Bool} {f : Nat → Crit} {n N : Nat} (hn : n < N) (hP : P n = true) : f n ∈ up P f N := by
  have h1 := up_pre (P := P) (f := f) (n + 1) (N - (n + 1))
  rw [show n + 1 + (N - (n + 1)) = N by omega, up_yes hP] at h1
  exact h1.subset (by simp)
section
variable {rs : List Rul} {i j : Nat}
theorem mem_ov (hi : i < rs.length) (hj : j < rs.length) {k : Nat} (h1 : 1 ≤ k) (h2 : k < min (rs.getD i ([], [])).1.length (rs.getD j ([], [])).1.length) (h : (rs.getD j ([], [])).1.take k = (rs.getD i ([], [])).1.drop ((rs.getD i ([], [])).1.length - k)) :
    ovk (rs.getD i ([], [])) (rs.getD j ([], [])) k ∈ crA rs := by
  refine (cr_pre1 hi hj (List.prefix_refl _)).subset (List.mem_append_right _ (up_mem h2 ?_))
  unfold ovP
  rw [decide_eq_true h1, decide_eq_true h]; rfl
theorem mem_cn (hi : i < rs.length) (hj : j < rs.length) (hij : i ≠ j) {p : Nat} (h1 : p ≤ (rs.getD i ([], [])).1.length) (h : (rs.getD j ([], [])).1 <+: (rs.getD i ([], [])).1.drop p) :
    cnk (rs.getD i ([], [])) (rs.getD j ([], [])) p ∈ crA rs :=
  (cr_pre2 hi hj hij (List.prefix_refl _)).subset (List.mem_append_right _ (up_mem (show p < _ + 1 by omega) (List.isPrefixOf_iff_prefix.2 h)))
def Jn (rs : List Rul) (a b : Wrd) : Prop := ∃ c, Stps rs a c ∧ Stps rs b c
theorem Jn.symm {a b : Wrd} (h : Jn rs a b) : Jn rs b a := by obtain ⟨c, h1, h2⟩ := h; exact ⟨c, h2, h1⟩
theorem Jn.ctx {a b : Wrd} (h : Jn rs a b) (x y : Wrd) : Jn rs (x ++ a ++ y) (x ++ b ++ y) := by obtain ⟨c, h1, h2⟩ := h; exact ⟨_, h1.ctx x y, h2.ctx x y⟩
theorem Jn.refl (a : Wrd) : Jn rs a a := ⟨a, .nil _, .nil _⟩
theorem jn_apart {r s : Rul} (hr : r ∈ rs) (hs : s ∈ rs) (x t y : Wrd) : Jn rs (x ++ r.2 ++ (t ++ s.1 ++ y)) (x ++ r.1 ++ (t ++ s.2 ++ y)) :=
  ⟨x ++ r.2 ++ (t ++ s.2 ++ y), Stp.one ⟨x ++ r.2 ++ t, y, s, hs, by simp, by simp⟩, Stp.one ⟨x, t ++ s.2 ++ y, r, hr, by simp, by simp⟩⟩
/-- the Left of j lies within that of i -/
theorem jn_cn (HC : ∀ c ∈ crA rs, Jn rs c.2.1 c.2.2) (hi : i < rs.length) (hj : j < rs.length) (x y t z : Wrd) (h : (rs.getD i ([], [])).1 = t ++ (rs.getD j ([], [])).1 ++ z) :
    Jn rs (x ++ (rs.getD i ([], [])).2 ++ y) (x ++ (t ++ (rs.getD j ([], [])).2 ++ z) ++ y) := by
  by_cases hij : i = j
  · subst hij
    have hl := congrArg List.length h
    simp only [List.length_append] at hl
    have e1 : t = [] := List.length_eq_zero_iff.1 (by omega)
    have e2 : z = [] := List.length_eq_zero_iff.1 (by omega)
    subst e1; subst e2
    simp only [List.nil_append, List.append_nil]
    exact Jn.refl _
  · have hm := HC _ (mem_cn hi hj hij (p := t.length) (by rw [h]; simp only [List.length_append]; omega) (by rw [h, List.append_assoc, List.drop_left]; exact List.prefix_append _ _))
    have e : cnk (rs.getD i ([], [])) (rs.getD j ([], [])) t.length = ((rs.getD i ([], [])).1, (rs.getD i ([], [])).2, t ++ (rs.getD j ([], [])).2 ++ z) := by
      unfold cnk
      rw [h, ← List.length_append, List.drop_left, List.append_assoc t (rs.getD j ([], [])).1 z, List.take_left]
    rw [e] at hm
    exact hm.ctx x y
theorem jn_step (HC : ∀ c ∈ crA rs, Jn rs c.2.1 c.2.2) (hi : i < rs.length) (hj : j < rs.length) (x1 y1 x2 y2 : Wrd) (hx : x1.length ≤ x2.length)
    (h : x1 ++ ((rs.getD i ([], [])).1 ++ y1) = x2 ++ ((rs.getD j ([], [])).1 ++ y2)) : Jn rs (x1 ++ (rs.getD i ([], [])).2 ++ y1) (x2 ++ (rs.getD j ([], [])).2 ++ y2) := by
  have hri := getD_mem (d := ([], [])) hi
  have hrj := getD_mem (d := ([], [])) hj
  obtain ⟨t, ht⟩ : ∃ t, x2 = x1 ++ t := by
    have : x1 <+: x2 := List.prefix_of_prefix_length_le ⟨_, rfl⟩ (h ▸ List.prefix_append x2 _) hx
    obtain ⟨t, ht⟩ := this
    exact ⟨t, ht.symm⟩
  subst ht
  rw [List.append_assoc, List.append_cancel_left_eq] at h
  rcases List.append_eq_append_iff.1 h with ⟨s, h1, h2⟩ | ⟨s, h1, h2⟩
  · have := jn_apart hri hrj x1 s y2
    rw [h1, h2]
    simp only [List.append_assoc] at this ⊢
    exact this
  · rcases List.append_eq_append_iff.1 h2 with ⟨z, h3, h4⟩ | ⟨z, h3, h4⟩
    · have := jn_cn HC hi hj x1 y1 t z (by rw [h1, h3, List.append_assoc])
      rw [h4]
      simp only [List.append_assoc] at this ⊢
      exact this
    · by_cases hs : s = []
      · subst hs
        have := jn_apart hri hrj x1 [] y2
        rw [List.append_nil] at h1
        rw [List.nil_append] at h3
        rw [h4, ← h3, ← h1]
        simp only [List.append_assoc, List.nil_append] at this ⊢
        exact this
      · by_cases hz : z = []
        · subst hz
          rw [List.append_nil] at h3
          rw [List.nil_append] at h4
          have := jn_cn HC hi hj x1 y1 t [] (by rw [h1, h3, List.append_nil])
          rw [← h4]
          simp only [List.append_assoc, List.append_nil] at this ⊢
          exact this
        · by_cases htt : t = []
          · subst htt
            rw [List.nil_append] at h1
            have := (jn_cn HC hj hi x1 y2 [] z (by rw [h1, h3, List.nil_append])).symm
            rw [h4]
            simp only [List.append_assoc, List.nil_append, List.append_nil] at this ⊢
            exact this
          · have ls := List.length_pos_iff.2 hs
            have lz := List.length_pos_iff.2 hz
            have lt := List.length_pos_iff.2 htt
            have l1 := congrArg List.length h1
            have l3 := congrArg List.length h3
            rw [List.length_append] at l1 l3
            have hm := HC _ (mem_ov hi hj (k := s.length) (by omega) (by omega) (by rw [h3, List.take_left, l1, Nat.add_sub_cancel, h1, List.drop_left]))
            have e : ovk (rs.getD i ([], [])) (rs.getD j ([], [])) s.length = ((rs.getD i ([], [])).1 ++ z, (rs.getD i ([], [])).2 ++ z, t ++ (rs.getD j ([], [])).2) := by
              unfold ovk
              rw [h3, List.drop_left, l1, Nat.add_sub_cancel]
              congr 2
              rw [h1, List.take_left]
            rw [e] at hm
            have := hm.ctx x1 y2
            rw [h4]
            simp only [List.append_assoc] at this ⊢
            exact this
theorem lc_of (HC : ∀ c ∈ crA rs, Jn rs c.2.1 c.2.2) : LC rs := by
  rintro u a b ⟨x1, y1, r, hr, rfl, rfl⟩ ⟨x2, y2, s, hs, h, rfl⟩
  obtain ⟨i, hi, e1⟩ := mem_getD ([], []) hr
  obtain ⟨j, hj, e2⟩ := mem_getD ([], []) hs
  rw [← e1, ← e2, List.append_assoc, List.append_assoc] at h
  rw [← e1, ← e2]
  rcases Nat.le_total x1.length x2.length with k | k
  · exact jn_step HC hi hj x1 y1 x2 y2 k h
  · exact (jn_step HC hj hi x2 y2 x1 y1 k h.symm).symm
end
/-! ### what Confluent answers -/
def crOk (rs : List Rul) (c : Crit) : Option (Crit × Bool × Int) :=
  if 2048 < c.2.1.length ∨ 2048 < c.2.2.length then some (([], [], []), false, 3)
  else match redF rs 100000 c.2.1, redF rs 100000 c.2.2 with
    | some x, some y => if x = y then none else some (c, false, 0)
    | _, _ => some (([], [], []), false, 3)
def cfR (rs : List Rul) (l : List Crit) : Crit × Bool × Int := (l.findSome? (crOk rs)).getD (([], [], []), true, 0)
def AllOk (rs : List Rul) (l : List Crit) : Prop := ∀ c ∈ l, crOk rs c = none
theorem AllOk.nil {rs : List Rul} : AllOk rs [] := fun c h => by cases h
theorem AllOk.snoc {rs : List Rul} {l : List Crit} {c : Crit} (h : AllOk rs l) (hc : crOk rs c = none) : AllOk rs (l ++ [c]) := fun d hd => by
  rcases List.mem_append.1 hd with k | k
  · exact h d k
  · rw [List.mem_singleton.1 k]; exact hc
theorem cfR_all {rs : List Rul} {l : List Crit} (h : AllOk rs l) : cfR rs l = (([], [], []), true, 0) := by
  unfold cfR
  rw [List.findSome?_eq_none_iff.2 h]; rfl
theorem cfR_first {rs : List Rul} {l pre : List Crit} {c : Crit} {z : Crit × Bool × Int} (h : pre ++ [c] <+: l) (hp : AllOk rs pre) (hc : crOk rs c = some z) : cfR rs l = z := by
  obtain ⟨t, rfl⟩ := h
  unfold cfR
  rw [List.findSome?_append, List.findSome?_append, List.findSome?_eq_none_iff.2 hp]
  simp [hc]
theorem cfR_true {rs : List Rul} {l : List Crit} {c : Crit} {e : Int} (h : cfR rs l = (c, true, e)) : AllOk rs l := by
  intro d hd
  cases ho : crOk rs d with
  | none => rfl
  | some z =>
    unfold cfR at h
    cases hf : l.findSome? (crOk rs) with
    | none => rw [List.findSome?_eq_none_iff.1 hf d hd] at ho; cases ho
    | some y =>
      rw [hf] at h
      obtain ⟨a, _, ha⟩ := List.exists_of_findSome?_eq_some hf
      have hy : y.2.1 = true := by have := congrArg (fun q => q.2.1) h; exact this
      unfold crOk at ha
      split at ha
      · cases ha; cases hy
      · split at ha
        · split at ha
          · cases ha
          · cases ha; cases hy
        · cases ha; cases hy
theorem crOk_jn {L : Int} {rs : List Rul} (hV : VR L rs) {c : Crit} (h : crOk rs c = none) : Jn rs c.2.1 c.2.2 := by
  unfold crOk at h
  split at h
  · cases h
  · split at h
    · rename_i x y h1 h2
      split at h
      · rename_i e
        subst e
        exact ⟨x, (redF_stps hV _ h1).1, (redF_stps hV _ h2).1⟩
      · cases h
    · cases h
theorem lc_ok {L : Int} {rs : List Rul} (hV : VR L rs) {c : Crit} {e : Int} (h : cfR rs (crA rs) = (c, true, e)) : LC rs := lc_of fun d hd => crOk_jn hV (cfR_true h d hd)
/-- one result, whatever the first step -/
theorem red_same {L : Int} {rs : List Rul} (hV : VR L rs) (hC : LC rs) {u v x y : Wrd} (h : Stps rs u v) (h1 : redF rs 100000 u = some x) (h2 : redF rs 100000 v = some y) : x = y := by
  obtain ⟨a1, a2⟩ := redF_stps hV _ h1
  obtain ⟨b1, b2⟩ := redF_stps hV _ h2
  exact nf_one hV hC a1 (h.trans b1) a2 b2
theorem red_parts {L : Int} {rs : List Rul} (hV : VR L rs) (hC : LC rs) {u v x a b y : Wrd} (h1 : redF rs 100000 (u ++ v) = some x) (h2 : redF rs 100000 u = some a) (h3 : redF rs 100000 v = some b) (h4 : redF rs 100000 (a ++ b) = some y) : x = y := by
  obtain ⟨a1, _⟩ := redF_stps hV _ h2
  obtain ⟨b1, _⟩ := redF_stps hV _ h3
  refine red_same hV hC ?_ h1 h4
  have k1 := a1.ctx [] v
  have k2 := b1.ctx a []
  simp only [List.nil_append, List.append_nil] at k1 k2
  exact k1.trans k2
end Go.Sx
