import Derived.Test.YtaeojcaidcjnaaaXDP
import Derived.Lib.Bytealg
import Derived.Test.YtaeojcaidcjnaaaXS2
import Derived.ChangeKeysEq
import Derived.KernelRfl
import Derived.Laws.IdiomCopy
import Derived.Lib.IndexMore
import Derived.Laws.RangeString
import Derived.Laws.Strings2
import Derived.RangeFuncIn
import Derived.RangeFuncLeaves
import Derived.RangeFuncRecord
import Derived.RangeFuncCalls
import Derived.RangeFuncSeq
import Derived.TacticsIn
import Derived.AtR
import Derived.Laws.StructEq
import Derived.Test.YtaeojcaidcjnaaaXMP
set_option linter.unusedVariables false
set_option linter.unusedSimpArgs false
namespace Go.Sx
open Go.RowKit
/-! ### rules -/
abbrev Rul := List UInt8 × List UInt8
def rcs (r : Rul) : List Value := [sv r.1, sv r.2]
def rlc (rs : List Rul) : List Value := rs.flatMap rcs
def rv (r : Rul) : Value := .agg #[sv r.1, sv r.2]
theorem rlc_length (rs : List Rul) : (rlc rs).length = rs.length * 2 := by
  induction rs with
  | nil => rfl
  | cons p ps ih => simp only [rlc, rcs, List.flatMap_cons, List.length_append, List.length_cons, List.length_nil] at ih ⊢; omega
theorem rlc_append (a b : List Rul) : rlc (a ++ b) = rlc a ++ rlc b := by simp [rlc]
theorem rlc_at (ps : List Rul) (j : Nat) (h : j < ps.length) : ((rlc ps).drop (j * 2)).take 2 = rcs (ps.getD j ([], [])) := by
  have h1 : ps = ps.take j ++ ps.getD j ([], []) :: ps.drop (j + 1) := by
    rw [List.getD_eq_getElem?_getD, List.getElem?_eq_getElem h, Option.getD_some, List.getElem_cons_drop, List.take_append_drop]
  have h2 : (rlc (ps.take j)).length = j * 2 := by rw [rlc_length, List.length_take]; omega
  conv => lhs; rw [h1]
  rw [rlc_append, ← h2, List.drop_left]
  simp [rlc, rcs]
def RdR (F : Nat → Prop) (w : World) (v : Value) (rs : List Rul) : Prop := Rd (fun b => ¬ F b) w v 2 rs.length (rlc rs)
theorem RdR.at {C : Cx} {on : List Asn} {w : World} {v : Value} {rs : List Rul} (h : RdR C.S C.W0 v rs) (hw : HW C on w) : RdR (fun _ => False) w v rs := Rd.keep h hw.frame (fun _ _ _ => id)
theorem RdR.own {C : Cx} {on : List Asn} {w : World} {v : Value} {E : TypeId} {rs : List Rul} (i : Nat) (hw : HW C on w) (hi : on[i]? = some (row v E 2 rs.length (rlc rs))) : RdR (fun _ => False) w v rs :=
  (RdS.own (C := C) i hi w hw).mono fun b _ _ => ⟨id, rfl⟩
theorem RdR.len {F : Nat → Prop} {w : World} {v : Value} {rs : List Rul} (h : RdR F w v rs) : rs.length ≤ 9223372036854775807 := by
  have := Rd.le h; exact this
theorem Yl.loadRu {C : Cx} {sl : List (Nat × Value)} {own : List Asn} {dst : Option Nat} {ty : TypeId} {pos : String} {aft : Array Edge} {g : Option (Nat × Bool)} {x : Operand} {t : TypeId} {v : Value} {n j : Nat} {ps : List Rul} (ht : AggT C.P t 2) (hx : opv ⟨sl, own⟩ x = some (.pointer (some ((slA v).add (j * 2)))))
    (hr : RdS C own v 2 n (rlc ps)) (hj : j < ps.length) : Yl C ⟨sl, own⟩ ⟨dst, .load t x, ty, pos, aft, g⟩ (rv (ps.getD j ([], []))) := fun a w hs => by
  have hn : n = ps.length := by obtain ⟨_, _, _, _, h, _⟩ := hr w hs.world; rw [rlc_length] at h; omega
  have := Yl.loadG (dst := dst) (ty := ty) (pos := pos) (aft := aft) (g := g) ht hx hr (by omega) a w hs
  rw [rlc_at ps j hj] at this
  exact this
/-! ### which rules are valid -/
def badR (L : Int) (r : Rul) : Bool := !validW L r.1 || !validW L r.2 || decide (CmpV r.1 r.2 ≤ 0)
def errR (L : Int) (rs : List Rul) : Int := if ¬ (1 ≤ L ∧ L ≤ 6) then 1 else if rs.length > 2000 then 3 else if rs.any (badR L) then 6 else 0
/-- valid rules -/
structure VR (L : Int) (rs : List Rul) : Prop where
  l : 1 ≤ L ∧ L ≤ 6
  n : rs.length ≤ 2000
  v : ∀ r ∈ rs, validW L r.1 = true ∧ validW L r.2 = true ∧ slx r.2 r.1 = true
theorem bl_tot : ∀ (u v : List UInt8), u.length = v.length → Op.bytesLess u v = true ∨ u = v ∨ Op.bytesLess v u = true
  | [], [], _ => .inr (.inl rfl)
  | [], _ :: _, h => by simp at h
  | _ :: _, [], h => by simp at h
  | a :: u, b :: v, h => by
    by_cases h1 : a < b
    · exact .inl (by simp [Op.bytesLess, h1])
    · by_cases h2 : b < a
      · exact .inr (.inr (by simp [Op.bytesLess, h2]))
      · have h3 : a = b := by
          have k1 : ¬ a.toNat < b.toNat := fun k => h1 (UInt8.lt_iff_toNat_lt.2 k)
          have k2 : ¬ b.toNat < a.toNat := fun k => h2 (UInt8.lt_iff_toNat_lt.2 k)
          exact UInt8.toNat_inj.1 (by omega)
        subst h3
        rcases bl_tot u v (by simpa using h) with k | k | k
        · exact .inl (by simp [Op.bytesLess, k])
        · exact .inr (.inl (by rw [k]))
        · exact .inr (.inr (by simp [Op.bytesLess, k]))
theorem slx_tot (u v : List UInt8) : slx u v = true ∨ u = v ∨ slx v u = true := by
  rw [slx_iff, slx_iff]
  rcases Nat.lt_trichotomy u.length v.length with h | h | h
  · exact .inl (.inl h)
  · rcases bl_tot u v h with k | k | k
    · exact .inl (.inr ⟨h, k⟩)
    · exact .inr (.inl k)
    · exact .inr (.inr (.inr ⟨h.symm, k⟩))
  · exact .inr (.inr (.inl h))
theorem CmpV_pos {u v : List UInt8} : ¬ CmpV u v ≤ 0 ↔ slx v u = true := by
  rw [CmpV_le]
  constructor
  · intro h
    rcases slx_tot v u with k | k | k
    · exact k
    · exact absurd (.inr k.symm) h
    · exact absurd (.inl k) h
  · rintro h (k | rfl)
    · have := slx_trans h k; rw [slx_irr] at this; cases this
    · rw [slx_irr] at h; cases h
theorem badR_iff {L : Int} {r : Rul} : badR L r = false ↔ validW L r.1 = true ∧ validW L r.2 = true ∧ slx r.2 r.1 = true := by
  unfold badR
  rw [Bool.or_eq_false_iff, Bool.or_eq_false_iff, Bool.not_eq_false', Bool.not_eq_false', decide_eq_false_iff_not, CmpV_pos, and_assoc]
theorem errR_iff {L : Int} {rs : List Rul} : errR L rs = 0 ↔ VR L rs := by
  unfold errR
  by_cases h1 : 1 ≤ L ∧ L ≤ 6
  · rw [if_neg (fun h => h h1)]
    by_cases h2 : rs.length > 2000
    · rw [if_pos h2]; exact ⟨fun h => (by cases h), fun h => (by have := h.n; omega)⟩
    · rw [if_neg h2]
      by_cases h3 : rs.any (badR L) = true
      · rw [if_pos h3]
        refine ⟨fun h => (by cases h), fun h => ?_⟩
        obtain ⟨r, hr, hb⟩ := List.any_eq_true.1 h3
        rw [badR_iff.2 (h.v r hr)] at hb; cases hb
      · rw [if_neg h3]
        refine ⟨fun _ => ⟨h1, by omega, fun r hr => badR_iff.1 ?_⟩, fun _ => rfl⟩
        by_cases hb : badR L r = true
        · exact absurd (List.any_eq_true.2 ⟨r, hr, hb⟩) h3
        · simpa using hb
  · rw [if_pos h1]; exact ⟨fun h => (by cases h), fun h => absurd h.l h1⟩
/-! ### strings.Compare -/
theorem cmpB_eq : ∀ (u v : List UInt8), u.length = v.length → Lib.compareBytes u v = CmpV u v := by
  have key : ∀ (u v : List UInt8), u.length = v.length → Lib.compareBytes u v = if Op.bytesLess u v then -1 else if u = v then 0 else 1 := by
    intro u
    induction u with
    | nil => intro v h; cases v with
      | nil => simp [Lib.compareBytes, Op.bytesLess]
      | cons b v => simp at h
    | cons a u ih => intro v h; cases v with
      | nil => simp at h
      | cons b v =>
        have := ih v (by simpa using h)
        simp only [Lib.compareBytes, Op.bytesLess, this]
        by_cases h1 : a < b
        · simp [h1]
        · by_cases h2 : b < a
          · have h3 : a ≠ b := fun e => by subst e; exact h1 h2
            simp [h1, h2, h3]
          · have h3 : a = b := by
              have k1 : ¬ a.toNat < b.toNat := fun k => h1 (UInt8.lt_iff_toNat_lt.2 k)
              have k2 : ¬ b.toNat < a.toNat := fun k => h2 (UInt8.lt_iff_toNat_lt.2 k)
              exact UInt8.toNat_inj.1 (by omega)
            subst h3
            simp [h1]
  intro u v h
  rw [key u v h]; unfold CmpV slx
  simp [h]
theorem cmp_len {u v : List UInt8} (h : u.length ≠ v.length) : (if (u.length : Int) < v.length then (-1 : Int) else if (v.length : Int) < u.length then 1 else 0) = CmpV u v := by
  unfold CmpV
  by_cases k : u.length < v.length
  · rw [if_pos (by omega), if_pos (slx_iff.2 (.inl k))]
  · have h1 : slx u v ≠ true := fun e => by rw [slx_iff] at e; omega
    rw [if_neg (by omega), if_pos (by omega), if_neg h1, if_neg (fun e => h (by rw [e]))]
theorem Ret.none0 (w : World) : Ret (fun _ => False) w w [] :=
  ⟨FrameX.refl _ _, fun _ _ => False, ⟨fun i A h => by simp at h, fun _ _ _ h => h, fun _ _ _ h => h.elim⟩, fun _ _ h => h.elim⟩
/-- a contract of the shelf: a value, the world as it was -/
theorem callS_pure {P : Program} {f : FuncId} {vs : List Value} {w : World} {v : Value} {φ : Value → List Asn → Prop} (h : Calls P f vs.toArray w fun e w' => e = .returned v ∧ w' = w) (hφ : φ v []) : CallS P f vs w φ :=
  h.mono fun e w' h' => ⟨v, [], hφ, h'.1, by rw [h'.2]; exact Ret.none0 w⟩
end Go.Sx

set_option linter.unusedVariables false
set_option linter.unusedSimpArgs false
namespace Go.Sx
open Go.RowKit
/-! ### the finder: longest ends that are nodes -/
abbrev Wrd := List UInt8
def lsuf (N : List Wrd) : Wrd → Wrd
  | [] => []
  | a :: u => if (a :: u) ∈ N then a :: u else lsuf N u
/-- closed under prefixes -/
def PreC (N : List Wrd) : Prop := ∀ u a, u ++ [a] ∈ N → u ∈ N
theorem lsuf_mem {N : List Wrd} (h0 : [] ∈ N) : ∀ u, lsuf N u ∈ N
  | [] => h0
  | a :: u => by
    unfold lsuf; split
    · assumption
    · exact lsuf_mem h0 u
theorem lsuf_self {N : List Wrd} : ∀ {u : Wrd}, u ∈ N → lsuf N u = u
  | [], _ => rfl
  | a :: u, h => by unfold lsuf; rw [if_pos h]
theorem lsuf_len (N : List Wrd) : ∀ u, (lsuf N u).length ≤ u.length
  | [] => Nat.le_refl _
  | a :: u => by
    unfold lsuf; split
    · exact Nat.le_refl _
    · have := lsuf_len N u; simp; omega
theorem lsuf_suf (N : List Wrd) : ∀ u, lsuf N u <:+ u
  | [] => List.suffix_refl _
  | a :: u => by
    unfold lsuf; split
    · exact List.suffix_refl _
    · exact (lsuf_suf N u).trans (List.suffix_cons _ _)
theorem PreC.app {N : List Wrd} (hp : PreC N) : ∀ (v u : Wrd), u ++ v ∈ N → u ∈ N := by
  intro v
  induction v with
  | nil => intro u h; simpa using h
  | cons a v ih => intro u h; exact hp u a (ih (u ++ [a]) (by simpa using h))
theorem lsuf_snoc {N : List Wrd} (hp : PreC N) (a : UInt8) : ∀ u, lsuf N (u ++ [a]) = lsuf N (lsuf N u ++ [a])
  | [] => rfl
  | b :: u => by
    by_cases h : (b :: u) ∈ N
    · rw [lsuf_self h]
    · have h1 : lsuf N (b :: u) = lsuf N u := by conv => lhs; unfold lsuf; rw [if_neg h]
      have h2 : (b :: u) ++ [a] ∉ N := fun k => h (hp _ _ k)
      have h3 : lsuf N ((b :: u) ++ [a]) = lsuf N (u ++ [a]) := by
        show lsuf N (b :: (u ++ [a])) = _
        conv => lhs; unfold lsuf
        rw [if_neg (show b :: (u ++ [a]) ∉ N from h2)]
      rw [h1, h3, lsuf_snoc hp a u]
/-- a node that ends u ends the longest one -/
theorem suf_lsuf {N : List Wrd} {p : Wrd} (hp : p ∈ N) : ∀ u, p <:+ u → p <:+ lsuf N u
  | [], h => h
  | a :: u, h => by
    unfold lsuf; split
    · exact h
    · rcases List.suffix_cons_iff.1 h with e | k
      · subst e; contradiction
      · exact suf_lsuf hp u k
/-- the least index at which P holds, or -1 -/
def Lix (P : Nat → Prop) (n : Nat) (r : Int) : Prop := (r = -1 ∧ ∀ i, i < n → ¬ P i) ∨ ∃ i : Nat, r = (i : Int) ∧ i < n ∧ P i ∧ ∀ j, j < i → ¬ P j
theorem Lix.uniq {P : Nat → Prop} {n : Nat} {r s : Int} (h : Lix P n r) (k : Lix P n s) : r = s := by
  rcases h with ⟨rfl, h⟩ | ⟨i, rfl, hi, h1, h2⟩ <;> rcases k with ⟨rfl, k⟩ | ⟨j, rfl, hj, k1, k2⟩
  · rfl
  · exact absurd k1 (h j hj)
  · exact absurd h1 (k i hi)
  · rcases Nat.lt_trichotomy i j with e | e | e
    · exact absurd h1 (k2 i e)
    · rw [e]
    · exact absurd k1 (h2 j e)
theorem Lix.congr {P Q : Nat → Prop} {n : Nat} {r : Int} (h : Lix P n r) (e : ∀ i, i < n → (P i ↔ Q i)) : Lix Q n r := by
  rcases h with ⟨rfl, h⟩ | ⟨i, rfl, hi, h1, h2⟩
  · exact .inl ⟨rfl, fun i hi k => h i hi ((e i hi).2 k)⟩
  · exact .inr ⟨i, rfl, hi, (e i hi).1 h1, fun j hj k => h2 j hj ((e j (by omega)).2 k)⟩
theorem Lix.neg {P : Nat → Prop} {n : Nat} {r : Int} (h : Lix P n r) (hr : r < 0) : ∀ i, i < n → ¬ P i := by
  rcases h with ⟨_, h⟩ | ⟨i, rfl, _⟩
  · exact h
  · omega
theorem Lix.pos {P : Nat → Prop} {n : Nat} {r : Int} (h : Lix P n r) (hr : ¬ r < 0) : ∃ i : Nat, r = (i : Int) ∧ i < n ∧ P i ∧ ∀ j, j < i → ¬ P j := by
  rcases h with ⟨rfl, _⟩ | h
  · omega
  · exact h
/-- the lesser one of two -/
theorem Lix.or_new {P Q : Nat → Prop} {n : Nat} {f o : Int} (h : Lix P n f) (k : Lix Q n o) (ho : o ≥ 0 ∧ (f < 0 ∨ o < f)) : Lix (fun i => P i ∨ Q i) n o := by
  obtain ⟨j, rfl, hj, h1, h2⟩ := k.pos (by omega)
  refine .inr ⟨j, rfl, hj, .inr h1, fun i hi hpq => ?_⟩
  rcases hpq with hp | hq
  · rcases h with ⟨rfl, h⟩ | ⟨m, rfl, hm, m1, m2⟩
    · exact h i (by omega) hp
    · exact m2 i (by omega) hp
  · exact h2 i hi hq
theorem Lix.or_old {P Q : Nat → Prop} {n : Nat} {f o : Int} (h : Lix P n f) (k : Lix Q n o) (ho : ¬ (o ≥ 0 ∧ (f < 0 ∨ o < f))) : Lix (fun i => P i ∨ Q i) n f := by
  rcases h with ⟨rfl, h⟩ | ⟨m, rfl, hm, m1, m2⟩
  · exact .inl ⟨rfl, fun i hi hpq => hpq.elim (h i hi) (k.neg (by omega) i hi)⟩
  · refine .inr ⟨m, rfl, hm, .inl m1, fun j hj hpq => hpq.elim (m2 j hj) (fun hq => ?_)⟩
    rcases k with ⟨rfl, k⟩ | ⟨l, rfl, hl, l1, l2⟩
    · exact k j (by omega) hq
    · exact l2 j (by omega) hq
/-- one more -/
theorem Lix.succ_no {P : Nat → Prop} {n : Nat} {r : Int} (h : Lix P n r) (hP : ¬ P n ∨ ¬ r < 0) : Lix P (n + 1) r := by
  rcases h with ⟨rfl, h⟩ | ⟨m, rfl, hm, m1, m2⟩
  · refine .inl ⟨rfl, fun i hi => ?_⟩
    rcases Nat.lt_or_ge i n with e | e
    · exact h i e
    · rw [show i = n by omega]; rcases hP with hP | hP
      · exact hP
      · omega
  · exact .inr ⟨m, rfl, by omega, m1, m2⟩
theorem Lix.succ_yes {P : Nat → Prop} {n : Nat} {r : Int} (h : Lix P n r) (hP : P n) (hr : r < 0) : Lix P (n + 1) (n : Int) :=
  .inr ⟨n, rfl, by omega, hP, fun j hj => h.neg hr j hj⟩
/-- z is the number of the node u -/
def At (N : List Wrd) (u : Wrd) (z : Int) : Prop := ∃ t : Nat, z = (t : Int) ∧ t < N.length ∧ N.getD t [] = u
theorem At.app {N : List Wrd} {u : Wrd} {z : Int} (h : At N u z) (M : List Wrd) : At (N ++ M) u z := by
  obtain ⟨t, rfl, h1, h2⟩ := h
  exact ⟨t, rfl, by rw [List.length_append]; omega, by rw [getD_pre h1]; exact h2⟩
theorem At.mem {N : List Wrd} {u : Wrd} {z : Int} (h : At N u z) : u ∈ N := by
  obtain ⟨t, rfl, h1, h2⟩ := h
  rw [← h2]; exact getD_mem h1
theorem getD_inj {N : List Wrd} (hn : N.Nodup) {s t : Nat} (hs : s < N.length) (ht : t < N.length) (h : N.getD s [] = N.getD t []) : s = t := by
  rw [List.getD_eq_getElem?_getD, List.getElem?_eq_getElem hs, List.getD_eq_getElem?_getD, List.getElem?_eq_getElem ht] at h
  exact (List.getElem_inj hn).1 h
theorem At.uniq {N : List Wrd} (hn : N.Nodup) {u : Wrd} {z y : Int} (h : At N u z) (k : At N u y) : z = y := by
  obtain ⟨t, rfl, h1, h2⟩ := h
  obtain ⟨s, rfl, k1, k2⟩ := k
  rw [getD_inj hn h1 k1 (by rw [h2, k2])]
/-- an entry of the tree: the child, or 0 -/
def Tri (N : List Wrd) (u : Wrd) (z : Int) : Prop := At N u z ∨ (u ∉ N ∧ z = 0)
theorem ltr_inj {x y : Nat} (hx : x < 6) (hy : y < 6) (h : ltr x = ltr y) : x = y := by
  have := congrArg UInt8.toNat h
  rw [ltr_toNat (by omega), ltr_toNat (by omega)] at this; omega
theorem getD_rep0 (n i : Nat) : (List.replicate n (0 : Int)).getD i 0 = 0 := by
  rw [List.getD_eq_getElem?_getD, List.getElem?_replicate]; split <;> rfl
/-- the tree of the first k patterns -/
structure Trie (ps : List Wrd) (k : Nat) (N : List Wrd) (fl fd : List Int) : Prop where
  nd : N.Nodup
  z : 0 < N.length ∧ N.getD 0 [] = []
  pc : PreC N
  al : ∀ u ∈ N, ∀ c ∈ u, 97 ≤ c.toNat ∧ c.toNat < 103
  fll : fl.length = N.length * 6
  fdl : fd.length = N.length
  tr : ∀ s, s < N.length → ∀ x, x < 6 → Tri N (N.getD s [] ++ [ltr x]) (fl.getD (s * 6 + x) 0)
  fnd : ∀ s, s < N.length → Lix (fun i => ps.getD i [] ≠ [] ∧ ps.getD i [] = N.getD s []) k (fd.getD s 0)
  mem : ∀ i, i < k → ps.getD i [] ∈ N
theorem Trie.mem0 {ps : List Wrd} {k : Nat} {N : List Wrd} {fl fd : List Int} (h : Trie ps k N fl fd) : [] ∈ N := by
  rw [← h.z.2]; exact getD_mem h.z.1
theorem trie0 (ps : List Wrd) : Trie ps 0 [[]] (List.replicate 6 0) [-1] where
  nd := by simp
  z := by simp
  pc := fun u a h => by simp at h
  al := by simp
  fll := by simp
  fdl := by simp
  tr := fun s hs x hx => by
    have : s = 0 := by simpa using hs
    subst this
    exact .inr ⟨by simp, getD_rep0 _ _⟩
  fnd := fun s hs => by
    have : s = 0 := by simpa using hs
    subst this
    exact .inl ⟨rfl, fun i hi => by omega⟩
  mem := fun i hi => by omega
theorem Trie.skip {ps : List Wrd} {k : Nat} {N : List Wrd} {fl fd : List Int} (h : Trie ps k N fl fd) (hp : ps.getD k [] = []) : Trie ps (k + 1) N fl fd where
  nd := h.nd
  z := h.z
  pc := h.pc
  al := h.al
  fll := h.fll
  fdl := h.fdl
  tr := h.tr
  fnd := fun s hs => (h.fnd s hs).succ_no (.inl fun e => e.1 hp)
  mem := fun i hi => by
    rcases Nat.lt_or_ge i k with e | e
    · exact h.mem i e
    · rw [show i = k by omega, hp]; exact h.mem0
theorem getD_set_ne {α : Type} {xs : List α} {i j : Nat} {a d : α} (h : i ≠ j) : (xs.set i a).getD j d = xs.getD j d := by
  simp [List.getD_eq_getElem?_getD, List.getElem?_set, h]
theorem getD_set_eq {α : Type} {xs : List α} {i : Nat} {a d : α} (h : i < xs.length) : (xs.set i a).getD i d = a := by
  simp [List.getD_eq_getElem?_getD, List.getElem?_set, h]
theorem getD_app_lt {α : Type} {xs ys : List α} {i : Nat} {d : α} (h : i < xs.length) : (xs ++ ys).getD i d = xs.getD i d := by
  simp [List.getD_eq_getElem?_getD, List.getElem?_append, h]
theorem getD_app_ge {α : Type} {xs ys : List α} {i : Nat} {d : α} (h : xs.length ≤ i) : (xs ++ ys).getD i d = ys.getD (i - xs.length) d := by
  simp [List.getD_eq_getElem?_getD, List.getElem?_append, Nat.not_lt.2 h]
/-- a new node -/
theorem Trie.add {ps : List Wrd} {k : Nat} {N : List Wrd} {fl fd : List Int} (h : Trie ps k N fl fd) {s x : Nat} (hs : s < N.length) (hx : x < 6) (h0 : fl.getD (s * 6 + x) 0 = 0) :
    Trie ps k (N ++ [N.getD s [] ++ [ltr x]]) (fl.set (s * 6 + x) (N.length : Int) ++ List.replicate 6 0) (fd ++ [-1]) := by
  have hu : N.getD s [] ++ [ltr x] ∉ N := fun hm => by
    rcases h.tr s hs x hx with ⟨t, e, h1, h2⟩ | e
    · rw [h0] at e
      have : t = 0 := by omega
      rw [this, h.z.2] at h2; simp at h2
    · exact e.1 hm
  have hsN : N.getD s [] ∈ N := getD_mem hs
  have hfl : s * 6 + x < fl.length := by rw [h.fll]; omega
  have inN : ∀ w, w ∈ N ++ [N.getD s [] ++ [ltr x]] ↔ w ∈ N ∨ w = N.getD s [] ++ [ltr x] := fun w => by simp
  refine ⟨?_, ?_, ?_, ?_, ?_, ?_, ?_, ?_, ?_⟩
  · rw [List.nodup_append]
    refine ⟨h.nd, by simp, fun a ha b hb => ?_⟩
    simp at hb; subst hb; intro e; subst e; exact hu ha
  · exact ⟨by simp, by rw [getD_app_lt h.z.1]; exact h.z.2⟩
  · intro u a hm
    rw [inN] at hm ⊢
    rcases hm with hm | hm
    · exact .inl (h.pc u a hm)
    · have := List.append_inj_left' hm rfl; exact .inl (this ▸ hsN)
  · intro u hm c hc
    rw [inN] at hm
    rcases hm with hm | rfl
    · exact h.al u hm c hc
    · rcases List.mem_append.1 hc with hc | hc
      · exact h.al _ hsN c hc
      · simp at hc; subst hc; rw [ltr_toNat (by omega)]; omega
  · simp [h.fll]; omega
  · simp [h.fdl]
  · intro t ht y hy
    rw [List.length_append] at ht
    simp at ht
    rcases Nat.lt_or_ge t N.length with hlt | hge
    · rw [getD_app_lt hlt, getD_app_lt (by rw [List.length_set, h.fll]; omega)]
      by_cases e : t = s ∧ y = x
      · obtain ⟨rfl, rfl⟩ := e
        rw [getD_set_eq hfl]
        exact .inl ⟨N.length, rfl, by simp, by rw [getD_app_ge (Nat.le_refl _)]; simp⟩
      · rw [getD_set_ne (by omega)]
        rcases h.tr t hlt y hy with k1 | ⟨k1, k2⟩
        · exact .inl (k1.app _)
        · refine .inr ⟨fun hm => ?_, k2⟩
          rw [inN] at hm
          rcases hm with hm | hm
          · exact k1 hm
          · have e1 := List.append_inj_left' hm rfl
            have e2 := List.append_inj_right' hm rfl
            simp at e2
            exact e ⟨getD_inj h.nd hlt hs e1, ltr_inj hy hx e2⟩
    · have et : t = N.length := by omega
      subst et
      have e1 : (N ++ [N.getD s [] ++ [ltr x]]).getD N.length [] = N.getD s [] ++ [ltr x] := by rw [getD_app_ge (Nat.le_refl _)]; simp
      rw [e1]
      refine .inr ⟨fun hm => ?_, ?_⟩
      · rw [inN] at hm
        rcases hm with hm | hm
        · exact hu (h.pc _ _ hm)
        · have := congrArg List.length hm; simp at this
      · rw [getD_app_ge (by rw [List.length_set, h.fll]; omega)]
        exact getD_rep0 _ _
  · intro t ht
    rw [List.length_append] at ht
    simp at ht
    rcases Nat.lt_or_ge t N.length with hlt | hge
    · rw [getD_app_lt (xs := fd) (by rw [h.fdl]; exact hlt), getD_app_lt (xs := N) hlt]; exact h.fnd t hlt
    · have et : t = N.length := by omega
      subst et
      rw [getD_app_ge (xs := fd) (by rw [h.fdl]; exact Nat.le_refl _), h.fdl, Nat.sub_self]
      refine .inl ⟨rfl, fun i hi e => ?_⟩
      rw [getD_app_ge (xs := N) (Nat.le_refl _)] at e
      simp at e
      have := h.mem i hi
      simp at this
      rw [e.2] at this
      exact hu (by simpa using this)
  · intro i hi
    rw [inN]; exact .inl (h.mem i hi)
/-- a pattern ends at its node -/
theorem Trie.mark {ps : List Wrd} {k : Nat} {N : List Wrd} {fl fd : List Int} (h : Trie ps k N fl fd) {s : Nat} (hs : s < N.length) (hp : ps.getD k [] ≠ []) (he : N.getD s [] = ps.getD k []) :
    Trie ps (k + 1) N fl (if fd.getD s 0 < 0 then fd.set s (k : Int) else fd) where
  nd := h.nd
  z := h.z
  pc := h.pc
  al := h.al
  fll := h.fll
  fdl := by split <;> simp [h.fdl]
  tr := h.tr
  fnd := fun t ht => by
    by_cases e : t = s
    · subst e
      by_cases hn : fd.getD t 0 < 0
      · rw [if_pos hn, getD_set_eq (by rw [h.fdl]; exact ht)]
        exact (h.fnd t ht).succ_yes ⟨hp, he.symm⟩ hn
      · rw [if_neg hn]; exact (h.fnd t ht).succ_no (.inr hn)
    · have : (if fd.getD s 0 < 0 then fd.set s (k : Int) else fd).getD t 0 = fd.getD t 0 := by
        split
        · exact getD_set_ne (fun e' => e e'.symm)
        · rfl
      rw [this]
      exact (h.fnd t ht).succ_no (.inl fun e' => e (getD_inj h.nd ht hs (by rw [he, ← e'.2])))
  mem := fun i hi => by
    rcases Nat.lt_or_ge i k with e | e
    · exact h.mem i e
    · rw [show i = k by omega, ← he]; exact getD_mem hs
end Go.Sx

set_option linter.unusedVariables false
set_option linter.unusedSimpArgs false
set_option linter.unusedSectionVars false
namespace Go.Sx
open Go.RowKit
/-- what a finder is -/
structure FinOK (ps N : List Wrd) (fl fd : List Int) : Prop where
  nd : N.Nodup
  z : 0 < N.length ∧ N.getD 0 [] = []
  pc : PreC N
  al : ∀ u ∈ N, ∀ c ∈ u, 97 ≤ c.toNat ∧ c.toNat < 103
  fll : fl.length = N.length * 6
  fdl : fd.length = N.length
  mem : ∀ i, i < ps.length → ps.getD i [] ∈ N
  go : ∀ s, s < N.length → ∀ x, x < 6 → At N (lsuf N (N.getD s [] ++ [ltr x])) (fl.getD (s * 6 + x) 0)
  fnd : ∀ s, s < N.length → Lix (fun i => ps.getD i [] ≠ [] ∧ ps.getD i [] <:+ N.getD s []) ps.length (fd.getD s 0)
/-- the search: i states done, of the next one x letters, m found -/
structure Cmp (ps N : List Wrd) (f0 d0 : List Int) (i x m : Nat) (q : List Nat) (sh fl fd : List Int) : Prop where
  le : i ≤ q.length
  x6 : x ≤ 6
  xi : 0 < x → i < q.length
  ml : m ≤ q.length
  q0 : 0 < q.length ∧ q.getD 0 0 = 0
  nd : q.Nodup
  lt : ∀ j, j < q.length → q.getD j 0 < N.length
  cl : ∀ t, t < N.length → (t ∈ q ↔ t = 0 ∨ (∃ j y, j < i ∧ y < 6 ∧ N.getD t [] = N.getD (q.getD j 0) [] ++ [ltr y]) ∨ (∃ y, y < x ∧ N.getD t [] = N.getD (q.getD i 0) [] ++ [ltr y]))
  so : ∀ a b, a ≤ b → b < q.length → (N.getD (q.getD a 0) []).length ≤ (N.getD (q.getD b 0) []).length
  shl : sh.length = N.length
  shv : ∀ j, j < q.length → At N (lsuf N (N.getD (q.getD j 0) []).tail) (sh.getD (q.getD j 0) 0)
  fll : fl.length = N.length * 6
  f1 : ∀ j y, j < i → y < 6 → At N (lsuf N (N.getD (q.getD j 0) [] ++ [ltr y])) (fl.getD (q.getD j 0 * 6 + y) 0)
  f2 : ∀ y, y < x → At N (lsuf N (N.getD (q.getD i 0) [] ++ [ltr y])) (fl.getD (q.getD i 0 * 6 + y) 0)
  f3 : ∀ s y, s < N.length → y < 6 → (∀ j, j < i → q.getD j 0 ≠ s) → (s = q.getD i 0 → i < q.length → x ≤ y) → fl.getD (s * 6 + y) 0 = f0.getD (s * 6 + y) 0
  fdl : fd.length = N.length
  d1 : ∀ j, j < m → Lix (fun i => ps.getD i [] ≠ [] ∧ ps.getD i [] <:+ N.getD (q.getD j 0) []) ps.length (fd.getD (q.getD j 0) 0)
  d2 : ∀ s, s < N.length → (∀ j, j < m → q.getD j 0 ≠ s) → fd.getD s 0 = d0.getD s 0
section
variable {ps N : List Wrd} {f0 d0 : List Int} (T : Trie ps ps.length N f0 d0)
include T
theorem nil_ix {t : Nat} (ht : t < N.length) (h : N.getD t [] = []) : t = 0 := getD_inj T.nd ht T.z.1 (by rw [h, T.z.2])
theorem At.zero {z : Int} (h : At N [] z) : z = 0 := by
  obtain ⟨t, rfl, h1, h2⟩ := h
  rw [nil_ix T h1 h2]; rfl
theorem at_nil : At N [] 0 := ⟨0, rfl, T.z.1, T.z.2⟩
theorem cmp0 : Cmp ps N f0 d0 0 0 0 [0] (List.replicate N.length 0) f0 d0 where
  le := Nat.zero_le _
  x6 := Nat.zero_le _
  xi := fun h => by omega
  ml := Nat.zero_le _
  q0 := ⟨by simp, rfl⟩
  nd := by simp
  lt := fun j hj => by
    have : j = 0 := by simpa using hj
    subst this; exact T.z.1
  cl := fun t ht => by
    constructor
    · intro h; exact .inl (by simpa using h)
    · rintro (h | ⟨j, y, h, _⟩ | ⟨y, h, _⟩)
      · simp [h]
      · omega
      · omega
  so := fun a b h hb => by
    have : b = 0 := by simpa using hb
    subst this
    have : a = 0 := by omega
    subst this; exact Nat.le_refl _
  shl := by simp
  shv := fun j hj => by
    have : j = 0 := by simpa using hj
    subst this
    rw [getD_rep0]
    show At N (lsuf N (N.getD 0 []).tail) 0
    rw [T.z.2]; exact at_nil T
  fll := T.fll
  f1 := fun j y h => by omega
  f2 := fun y h => by omega
  f3 := fun s y _ _ _ _ => rfl
  fdl := T.fdl
  d1 := fun j h => by omega
  d2 := fun s _ _ => rfl
variable {i x m : Nat} {q : List Nat} {sh fl fd : List Int} (h : Cmp ps N f0 d0 i x m q sh fl fd)
include h
theorem Cmp.inj {a b : Nat} (ha : a < q.length) (hb : b < q.length) (e : q.getD a 0 = q.getD b 0) : a = b := by
  rw [List.getD_eq_getElem?_getD, List.getElem?_eq_getElem ha, List.getD_eq_getElem?_getD, List.getElem?_eq_getElem hb] at e
  exact (List.getElem_inj h.nd).1 e
theorem Cmp.qle : q.length ≤ N.length := by
  have := nodup_sub_len (U := List.range N.length) h.nd (fun y hy => by
    obtain ⟨k, hk, e⟩ := mem_getD 0 hy
    rw [List.mem_range, ← e]; exact h.lt k hk)
  simpa using this
theorem Cmp.shorter (hi : i < q.length) : ∀ (n t : Nat), (N.getD t []).length = n → t < N.length → n < (N.getD (q.getD i 0) []).length → ∃ j, j < i ∧ q.getD j 0 = t := by
  intro n
  induction n with
  | zero =>
    intro t hn ht hlt
    have e := nil_ix T ht (List.length_eq_zero_iff.1 hn)
    subst e
    refine ⟨0, ?_, h.q0.2⟩
    rcases Nat.eq_zero_or_pos i with e | e
    · subst e; rw [h.q0.2, hn] at hlt; omega
    · exact e
  | succ n ih =>
    intro t hn ht hlt
    have hne : N.getD t [] ≠ [] := fun e => by rw [e] at hn; simp at hn
    obtain ⟨v, a, hva⟩ : ∃ v a, N.getD t [] = v ++ [a] := ⟨_, _, (List.dropLast_concat_getLast hne).symm⟩
    have htN : N.getD t [] ∈ N := getD_mem ht
    have hvN : v ∈ N := T.pc v a (hva ▸ htN)
    obtain ⟨r, hr, hrv⟩ := mem_getD [] hvN
    have hvl : v.length = n := by rw [hva] at hn; simpa using hn
    obtain ⟨j, hj, hjr⟩ := ih r (by rw [hrv, hvl]) hr (by omega)
    have hal := T.al _ htN a (by rw [hva]; simp)
    have hay : a = ltr (a.toNat - 97) := UInt8.toNat_inj.1 (by rw [ltr_toNat (by omega)]; omega)
    have hq : t ∈ q := (h.cl t ht).2 (.inr (.inl ⟨j, a.toNat - 97, hj, by omega, by rw [hjr, hrv, ← hay, hva]⟩))
    obtain ⟨b, hb, hbt⟩ := mem_getD 0 hq
    refine ⟨b, ?_, hbt⟩
    rcases Nat.lt_or_ge b i with e | e
    · exact e
    · have := h.so i b e hb
      rw [hbt] at this; omega
/-- the shorter state is done -/
theorem Cmp.short (hi : i < q.length) (hs : q.getD i 0 ≠ 0) : ∃ j, j < i ∧ sh.getD (q.getD i 0) 0 = ((q.getD j 0 : Nat) : Int) ∧ N.getD (q.getD j 0) [] = lsuf N (N.getD (q.getD i 0) []).tail ∧ N.getD (q.getD i 0) [] ≠ [] := by
  have hne : N.getD (q.getD i 0) [] ≠ [] := fun e => hs (nil_ix T (h.lt i hi) e)
  obtain ⟨t, h1, h2, h3⟩ := h.shv i hi
  obtain ⟨j, hj, e⟩ := h.shorter T hi _ t rfl h2 (by
    rw [h3]
    have := lsuf_len N (N.getD (q.getD i 0) []).tail
    rw [List.length_tail] at this
    have : 0 < (N.getD (q.getD i 0) []).length := List.length_pos_iff.2 hne
    omega)
  exact ⟨j, hj, by rw [h1, e], by rw [e]; exact h3, hne⟩
theorem Cmp.shB (hi : i < q.length) : ∃ t : Nat, sh.getD (q.getD i 0) 0 = (t : Int) ∧ t < N.length := by
  obtain ⟨t, h1, h2, h3⟩ := h.shv i hi
  exact ⟨t, h1, h2⟩
/-- the fallback -/
theorem Cmp.fall (hi : i < q.length) (hx : x < 6) (hs : q.getD i 0 ≠ 0) : At N (lsuf N ((N.getD (q.getD i 0) []).tail ++ [ltr x])) (fl.getD ((sh.getD (q.getD i 0) 0).toNat * 6 + x) 0) := by
  obtain ⟨j, hj, e1, e2, e3⟩ := h.short T hi hs
  have := h.f1 j x hj hx
  rw [e2, ← lsuf_snoc T.pc] at this
  rw [e1]; exact this
end
/-- the step of found -/
theorem Cmp.found {ps N : List Wrd} {f0 d0 : List Int} (T : Trie ps ps.length N f0 d0) {i : Nat} {q : List Nat} {sh fl fd : List Int} (h : Cmp ps N f0 d0 i 0 i q sh fl fd) (hi : i < q.length) :
    Cmp ps N f0 d0 i 0 (i + 1) q sh fl (if fd.getD (sh.getD (q.getD i 0) 0).toNat 0 ≥ 0 ∧ (fd.getD (q.getD i 0) 0 < 0 ∨ fd.getD (sh.getD (q.getD i 0) 0).toNat 0 < fd.getD (q.getD i 0) 0) then fd.set (q.getD i 0) (fd.getD (sh.getD (q.getD i 0) 0).toNat 0) else fd) := by
  have hold : fd.getD (q.getD i 0) 0 = d0.getD (q.getD i 0) 0 := h.d2 _ (h.lt i hi) (fun j hj e => by have := h.inj T (by omega) hi e; omega)
  have hF := T.fnd _ (h.lt i hi)
  rw [← hold] at hF
  have key : Lix (fun k => ps.getD k [] ≠ [] ∧ ps.getD k [] <:+ N.getD (q.getD i 0) []) ps.length (if fd.getD (sh.getD (q.getD i 0) 0).toNat 0 ≥ 0 ∧ (fd.getD (q.getD i 0) 0 < 0 ∨ fd.getD (sh.getD (q.getD i 0) 0).toNat 0 < fd.getD (q.getD i 0) 0) then fd.getD (sh.getD (q.getD i 0) 0).toNat 0 else fd.getD (q.getD i 0) 0) := by
    by_cases hs : q.getD i 0 = 0
    · have e0 : i = 0 := h.inj T hi h.q0.1 (by rw [hs, h.q0.2])
      have hsh := h.shv i hi
      rw [hs, T.z.2] at hsh
      have hsh0 := At.zero T hsh
      rw [hs] at hF ⊢
      rw [hsh0, T.z.2] at *
      have hm1 : fd.getD 0 0 = -1 := by
        rcases hF with ⟨e, _⟩ | ⟨k, _, _, h1, _⟩
        · exact e
        · exact absurd h1.2 h1.1
      rw [if_neg (fun hh => by have h1 := hh.1; rw [show (0 : Int).toNat = 0 from rfl, hm1] at h1; omega)]
      exact hF.congr fun k _ => and_congr_right fun hk => ⟨fun e => by rw [e]; exact List.suffix_refl _, fun e => List.suffix_nil.1 e⟩
    · obtain ⟨j, hj, e1, e2, e3⟩ := h.short T hi hs
      obtain ⟨a, u, hau⟩ := List.exists_cons_of_ne_nil e3
      have hO := h.d1 j hj
      rw [e2] at hO
      rw [hau] at hO hF ⊢
      have hO' : Lix (fun k => ps.getD k [] ≠ [] ∧ ps.getD k [] <:+ u) ps.length (fd.getD (q.getD j 0) 0) :=
        hO.congr fun k hk => and_congr_right fun hne => ⟨fun e => e.trans (lsuf_suf N u), fun e => suf_lsuf (T.mem k hk) u e⟩
      rw [e1]
      simp only [Int.toNat_natCast]
      have cg : ∀ k, k < ps.length → ((ps.getD k [] ≠ [] ∧ ps.getD k [] = a :: u) ∨ (ps.getD k [] ≠ [] ∧ ps.getD k [] <:+ u) ↔ (ps.getD k [] ≠ [] ∧ ps.getD k [] <:+ a :: u)) := fun k _ => by
        rw [List.suffix_cons_iff]
        constructor
        · rintro (⟨p, e⟩ | ⟨p, e⟩)
          · exact ⟨p, .inl e⟩
          · exact ⟨p, .inr e⟩
        · rintro ⟨p, e | e⟩
          · exact .inl ⟨p, e⟩
          · exact .inr ⟨p, e⟩
      by_cases hc : fd.getD (q.getD j 0) 0 ≥ 0 ∧ (fd.getD (q.getD i 0) 0 < 0 ∨ fd.getD (q.getD j 0) 0 < fd.getD (q.getD i 0) 0)
      · rw [if_pos hc]; exact (hF.or_new hO' hc).congr cg
      · rw [if_neg hc]; exact (hF.or_old hO' hc).congr cg
  generalize ho : fd.getD (sh.getD (q.getD i 0) 0).toNat 0 = o at key ⊢
  have hne : ∀ j, j < q.length → j ≠ i → q.getD i 0 ≠ q.getD j 0 := fun j hj hji e => hji (h.inj T hj hi e.symm)
  refine { le := h.le, x6 := h.x6, xi := h.xi, ml := by omega, q0 := h.q0, nd := h.nd, lt := h.lt, cl := h.cl, so := h.so, shl := h.shl, shv := h.shv, fll := h.fll, f1 := h.f1, f2 := h.f2, f3 := h.f3, fdl := ?_, d1 := ?_, d2 := ?_ }
  · split <;> simp [h.fdl]
  · intro j hj
    by_cases e : j = i
    · subst e
      split at key
      · rename_i hc; rw [if_pos hc, getD_set_eq (by rw [h.fdl]; exact h.lt j hi)]; exact key
      · rename_i hc; rw [if_neg hc]; exact key
    · have := h.d1 j (by omega)
      split
      · rw [getD_set_ne (hne j (by omega) e)]; exact this
      · exact this
  · intro s hs hj
    have := h.d2 s hs (fun j hj' => hj j (by omega))
    split
    · rw [getD_set_ne (hj i (by omega))]; exact this
    · exact this
section
variable {ps N : List Wrd} {f0 d0 : List Int} (T : Trie ps ps.length N f0 d0)
include T
variable {i x m : Nat} {q : List Nat} {sh fl fd : List Int} (h : Cmp ps N f0 d0 i x m q sh fl fd)
include h
/-- what stands at a letter that was not met -/
theorem Cmp.entry (hi : i < q.length) (hx : x < 6) : Tri N (N.getD (q.getD i 0) [] ++ [ltr x]) (fl.getD (q.getD i 0 * 6 + x) 0) := by
  rw [h.f3 _ x (h.lt i hi) hx (fun j hj e => by have := h.inj T (by omega) hi e; omega) (fun _ _ => Nat.le_refl _)]
  exact T.tr _ (h.lt i hi) x hx
/-- the fallback, for every state -/
theorem Cmp.fb (hi : i < q.length) (hx : x < 6) (hn : N.getD (q.getD i 0) [] ++ [ltr x] ∉ N) :
    At N (lsuf N (N.getD (q.getD i 0) [] ++ [ltr x])) (if q.getD i 0 = 0 then 0 else fl.getD ((sh.getD (q.getD i 0) 0).toNat * 6 + x) 0) := by
  by_cases hs : q.getD i 0 = 0
  · rw [if_pos hs, hs]
    rw [hs] at hn
    rw [T.z.2] at hn ⊢
    have : lsuf N ([] ++ [ltr x]) = [] := by
      show lsuf N (ltr x :: []) = []
      unfold lsuf
      rw [if_neg (show [ltr x] ∉ N from hn)]; rfl
    rw [this]; exact at_nil T
  · rw [if_neg hs]
    have := h.fall T hi hx hs
    obtain ⟨j, hj, e1, e2, e3⟩ := h.short T hi hs
    obtain ⟨a, u, hau⟩ := List.exists_cons_of_ne_nil e3
    rw [hau] at this hn ⊢
    have e : lsuf N (a :: u ++ [ltr x]) = lsuf N (u ++ [ltr x]) := by
      show lsuf N (a :: (u ++ [ltr x])) = _
      conv => lhs; unfold lsuf
      rw [if_neg (show a :: (u ++ [ltr x]) ∉ N from hn)]
    rw [e]; exact this
theorem Cmp.fb2 (hi : i < q.length) (hx : x < 6) :
    At N (lsuf N (N.getD (q.getD i 0) [] ++ [ltr x]).tail) (if q.getD i 0 = 0 then 0 else fl.getD ((sh.getD (q.getD i 0) 0).toNat * 6 + x) 0) := by
  by_cases hs : q.getD i 0 = 0
  · rw [if_pos hs, hs, T.z.2]; exact at_nil T
  · rw [if_neg hs]
    have := h.fall T hi hx hs
    obtain ⟨j, hj, e1, e2, e3⟩ := h.short T hi hs
    obtain ⟨a, u, hau⟩ := List.exists_cons_of_ne_nil e3
    rw [hau] at this ⊢
    exact this
/-- no child: the fallback is stored -/
theorem Cmp.none (hi : i < q.length) (hx : x < 6) (hz : fl.getD (q.getD i 0 * 6 + x) 0 = 0) :
    Cmp ps N f0 d0 i (x + 1) m q sh (fl.set (q.getD i 0 * 6 + x) (if q.getD i 0 = 0 then 0 else fl.getD ((sh.getD (q.getD i 0) 0).toNat * 6 + x) 0)) fd := by
  have hne : ∀ j, j < q.length → j ≠ i → q.getD i 0 ≠ q.getD j 0 := fun j hj hji e => hji (h.inj T hj hi e.symm)
  have hnot : N.getD (q.getD i 0) [] ++ [ltr x] ∉ N := fun hm => by
    rcases h.entry T hi hx with ⟨t, e, h1, h2⟩ | e
    · rw [hz] at e
      have : t = 0 := by omega
      rw [this, T.z.2] at h2; simp at h2
    · exact e.1 hm
  have hlt := h.lt i hi
  have hfl : q.getD i 0 * 6 + x < fl.length := by rw [h.fll]; omega
  have hfb := h.fb T hi hx hnot
  generalize (if q.getD i 0 = 0 then (0 : Int) else fl.getD ((sh.getD (q.getD i 0) 0).toNat * 6 + x) 0) = b at hfb ⊢
  refine { le := h.le, x6 := by omega, xi := fun _ => hi, ml := h.ml, q0 := h.q0, nd := h.nd, lt := h.lt, cl := ?_, so := h.so, shl := h.shl, shv := h.shv, fll := by simp [h.fll], f1 := ?_, f2 := ?_, f3 := ?_, fdl := h.fdl, d1 := h.d1, d2 := h.d2 }
  · intro t ht
    rw [h.cl t ht]
    constructor
    · rintro (e | e | ⟨y, hy, e⟩)
      · exact .inl e
      · exact .inr (.inl e)
      · exact .inr (.inr ⟨y, by omega, e⟩)
    · rintro (e | e | ⟨y, hy, e⟩)
      · exact .inl e
      · exact .inr (.inl e)
      · rcases Nat.lt_or_ge y x with k | k
        · exact .inr (.inr ⟨y, k, e⟩)
        · have : y = x := by omega
          subst this
          exact absurd (e ▸ getD_mem ht) hnot
  · intro j y hj hy
    have := hne j (by omega) (by omega)
    rw [getD_set_ne (by omega)]; exact h.f1 j y hj hy
  · intro y hy
    rcases Nat.lt_or_ge y x with k | k
    · rw [getD_set_ne (by omega)]; exact h.f2 y k
    · have : y = x := by omega
      subst this
      rw [getD_set_eq hfl]; exact hfb
  · intro s y hs hy h1 h2
    have : q.getD i 0 * 6 + x ≠ s * 6 + y := fun e => by
      have e1 : s = q.getD i 0 := by omega
      have := h2 e1 hi; omega
    rw [getD_set_ne this]
    exact h.f3 s y hs hy h1 (fun e k => by have := h2 e k; omega)
/-- a child: it waits -/
theorem Cmp.some (hi : i < q.length) (hx : x < 6) {t : Nat} (hz : fl.getD (q.getD i 0 * 6 + x) 0 = (t : Int)) (ht0 : t ≠ 0) :
    Cmp ps N f0 d0 i (x + 1) m (q ++ [t]) (sh.set t (if q.getD i 0 = 0 then 0 else fl.getD ((sh.getD (q.getD i 0) 0).toNat * 6 + x) 0)) fl fd := by
  have hne : ∀ j, j < q.length → j ≠ i → q.getD i 0 ≠ q.getD j 0 := fun j hj hji e => hji (h.inj T hj hi e.symm)
  have hat : t < N.length ∧ N.getD t [] = N.getD (q.getD i 0) [] ++ [ltr x] := by
    rcases h.entry T hi hx with ⟨t', e, h1, h2⟩ | e
    · rw [hz] at e
      have : t = t' := by omega
      rw [this]; exact ⟨h1, h2⟩
    · rw [hz] at e; omega
  obtain ⟨htN, hte⟩ := hat
  have hfb := h.fb2 T hi hx
  generalize (if q.getD i 0 = 0 then (0 : Int) else fl.getD ((sh.getD (q.getD i 0) 0).toNat * 6 + x) 0) = b at hfb ⊢
  have htq : t ∉ q := fun hm => by
    rcases (h.cl t htN).1 hm with e | ⟨j, y, hj, hy, e⟩ | ⟨y, hy, e⟩
    · exact ht0 e
    · rw [hte] at e
      have := getD_inj T.nd (h.lt i hi) (h.lt j (by omega)) (List.append_inj_left' e rfl)
      exact hne j (by omega) (by omega) this
    · rw [hte] at e
      have e2 := List.append_inj_right' e rfl
      simp at e2
      have := ltr_inj hx (by omega) e2; omega
  have gl : ∀ j, j < q.length → (q ++ [t]).getD j 0 = q.getD j 0 := fun j hj => getD_app_lt hj
  have gr : (q ++ [t]).getD q.length 0 = t := by rw [getD_app_ge (Nat.le_refl _)]; simp
  have hlen : (q ++ [t]).length = q.length + 1 := by simp
  have long : ∀ j, j < q.length → (N.getD (q.getD j 0) []).length ≤ (N.getD t []).length := fun j hj => by
    rw [hte]
    rcases (h.cl _ (h.lt j hj)).1 (getD_mem hj) with e | ⟨k, y, hk, hy, e⟩ | ⟨y, hy, e⟩
    · rw [e, T.z.2]; simp
    · rw [e]; have := h.so k i (by omega) hi; rw [List.length_append, List.length_append]; exact Nat.add_le_add_right this _
    · rw [e, List.length_append, List.length_append]; exact Nat.le_refl _
  have hsh : ∀ j, j < q.length → (sh.set t b).getD (q.getD j 0) 0 = sh.getD (q.getD j 0) 0 := fun j hj => getD_set_ne (fun e => htq (e ▸ getD_mem hj))
  refine { le := by rw [hlen]; have := h.le; omega, x6 := by omega, xi := fun _ => by rw [hlen]; omega, ml := by rw [hlen]; have := h.ml; omega, q0 := ⟨by rw [hlen]; omega, by rw [gl 0 h.q0.1]; exact h.q0.2⟩, nd := ?_, lt := ?_, cl := ?_, so := ?_, shl := by simp [h.shl], shv := ?_, fll := h.fll, f1 := ?_, f2 := ?_, f3 := ?_, fdl := h.fdl, d1 := ?_, d2 := ?_ }
  · rw [List.nodup_append]
    exact ⟨h.nd, by simp, fun a ha c hc => by simp at hc; subst hc; intro e; subst e; exact htq ha⟩
  · intro j hj
    rw [hlen] at hj
    rcases Nat.lt_or_ge j q.length with k | k
    · rw [gl j k]; exact h.lt j k
    · rw [show j = q.length by omega, gr]; exact htN
  · intro s hs
    rw [List.mem_append, h.cl s hs, gl i hi]
    constructor
    · rintro ((e | ⟨j, y, hj, hy, e⟩ | ⟨y, hy, e⟩) | e)
      · exact .inl e
      · exact .inr (.inl ⟨j, y, hj, hy, by rw [gl j (by omega)]; exact e⟩)
      · exact .inr (.inr ⟨y, by omega, e⟩)
      · simp at e; subst e; exact .inr (.inr ⟨x, by omega, hte⟩)
    · rintro (e | ⟨j, y, hj, hy, e⟩ | ⟨y, hy, e⟩)
      · exact .inl (.inl e)
      · exact .inl (.inr (.inl ⟨j, y, hj, hy, by rw [gl j (by omega)] at e; exact e⟩))
      · rcases Nat.lt_or_ge y x with k | k
        · exact .inl (.inr (.inr ⟨y, k, e⟩))
        · have : y = x := by omega
          subst this
          exact .inr (by simp; exact getD_inj T.nd hs htN (by rw [e, hte]))
  · intro a c hac hc
    rw [hlen] at hc
    rcases Nat.lt_or_ge c q.length with k | k
    · rw [gl c k, gl a (by omega)]; exact h.so a c hac k
    · have ec : c = q.length := by omega
      subst ec
      rw [gr]
      rcases Nat.lt_or_ge a q.length with k | k
      · rw [gl a k]; exact long a k
      · rw [show a = q.length by omega, gr]; exact Nat.le_refl _
  · intro j hj
    rw [hlen] at hj
    rcases Nat.lt_or_ge j q.length with k | k
    · rw [gl j k, hsh j k]; exact h.shv j k
    · have ec : j = q.length := by omega
      subst ec
      rw [gr, getD_set_eq (by rw [h.shl]; exact htN), hte]; exact hfb
  · intro j y hj hy
    rw [gl j (by omega)]; exact h.f1 j y hj hy
  · intro y hy
    rw [gl i hi]
    rcases Nat.lt_or_ge y x with k | k
    · exact h.f2 y k
    · have : y = x := by omega
      subst this
      have hm : N.getD (q.getD i 0) [] ++ [ltr y] ∈ N := hte ▸ getD_mem htN
      rw [lsuf_self hm, hz]
      exact ⟨t, rfl, htN, hte⟩
  · intro s y hs hy h1 h2
    exact h.f3 s y hs hy (fun j hj => by have := h1 j hj; rw [gl j (by omega)] at this; exact this) (fun e k => by have := h2 (by rw [gl i hi]; exact e) (by rw [hlen]; omega); omega)
  · intro j hj
    have := h.ml
    rw [gl j (by omega)]; exact h.d1 j hj
  · intro s hs hj
    have := h.ml
    exact h.d2 s hs (fun j hj' => by have := hj j hj'; rw [gl j (by omega)] at this; exact this)
end
theorem Cmp.next {ps N : List Wrd} {f0 d0 : List Int} (T : Trie ps ps.length N f0 d0) {i m : Nat} {q : List Nat} {sh fl fd : List Int} (h : Cmp ps N f0 d0 i 6 m q sh fl fd) : Cmp ps N f0 d0 (i + 1) 0 m q sh fl fd := by
  have hi := h.xi (by omega)
  refine { le := hi, x6 := by omega, xi := fun h => by omega, ml := h.ml, q0 := h.q0, nd := h.nd, lt := h.lt, cl := ?_, so := h.so, shl := h.shl, shv := h.shv, fll := h.fll, f1 := ?_, f2 := fun y hy => by omega, f3 := ?_, fdl := h.fdl, d1 := h.d1, d2 := h.d2 }
  · intro t ht
    rw [h.cl t ht]
    constructor
    · rintro (e | ⟨j, y, hj, hy, e⟩ | ⟨y, hy, e⟩)
      · exact .inl e
      · exact .inr (.inl ⟨j, y, by omega, hy, e⟩)
      · exact .inr (.inl ⟨i, y, by omega, hy, e⟩)
    · rintro (e | ⟨j, y, hj, hy, e⟩ | ⟨y, hy, e⟩)
      · exact .inl e
      · rcases Nat.lt_or_ge j i with k | k
        · exact .inr (.inl ⟨j, y, k, hy, e⟩)
        · rw [show j = i by omega] at e; exact .inr (.inr ⟨y, hy, e⟩)
      · omega
  · intro j y hj hy
    rcases Nat.lt_or_ge j i with k | k
    · exact h.f1 j y k hy
    · rw [show j = i by omega]; exact h.f2 y hy
  · intro s y hs hy h1 h2
    exact h.f3 s y hs hy (fun j hj => h1 j (by omega)) (fun e _ => absurd e.symm (h1 i (by omega)))
theorem Cmp.done {ps N : List Wrd} {f0 d0 : List Int} (T : Trie ps ps.length N f0 d0) {i : Nat} {q : List Nat} {sh fl fd : List Int} (h : Cmp ps N f0 d0 i 0 i q sh fl fd) (hi : i = q.length) : FinOK ps N fl fd := by
  have all : ∀ (n t : Nat), (N.getD t []).length = n → t < N.length → ∃ j, j < i ∧ q.getD j 0 = t := by
    intro n
    induction n with
    | zero =>
      intro t hn ht
      have e := nil_ix T ht (List.length_eq_zero_iff.1 hn)
      subst e
      exact ⟨0, by rw [hi]; exact h.q0.1, h.q0.2⟩
    | succ n ih =>
      intro t hn ht
      have hne : N.getD t [] ≠ [] := fun e => by rw [e] at hn; simp at hn
      obtain ⟨v, a, hva⟩ : ∃ v a, N.getD t [] = v ++ [a] := ⟨_, _, (List.dropLast_concat_getLast hne).symm⟩
      have htN : N.getD t [] ∈ N := getD_mem ht
      have hvN : v ∈ N := T.pc v a (hva ▸ htN)
      obtain ⟨r, hr, hrv⟩ := mem_getD [] hvN
      obtain ⟨j, hj, hjr⟩ := ih r (by rw [hrv]; rw [hva] at hn; simpa using hn) hr
      have hal := T.al _ htN a (by rw [hva]; simp)
      have hay : a = ltr (a.toNat - 97) := UInt8.toNat_inj.1 (by rw [ltr_toNat (by omega)]; omega)
      have hq : t ∈ q := (h.cl t ht).2 (.inr (.inl ⟨j, a.toNat - 97, hj, by omega, by rw [hjr, hrv, ← hay, hva]⟩))
      obtain ⟨b, hb, hbt⟩ := mem_getD 0 hq
      exact ⟨b, by omega, hbt⟩
  refine ⟨T.nd, T.z, T.pc, T.al, h.fll, h.fdl, T.mem, fun s hs x hx => ?_, fun s hs => ?_⟩
  · obtain ⟨j, hj, rfl⟩ := all _ s rfl hs
    exact h.f1 j x hj hx
  · obtain ⟨j, hj, rfl⟩ := all _ s rfl hs
    exact h.d1 j hj
end Go.Sx
namespace Go.Sx
open Go.RowKit
def qz (q : List Nat) : List Int := q.map fun t : Nat => (t : Int)
theorem qz_len (q : List Nat) : (qz q).length = q.length := by simp [qz]
theorem qz_get (q : List Nat) (i : Nat) : (qz q).getD i 0 = ((q.getD i 0 : Nat) : Int) := by
  unfold qz
  rw [List.getD_eq_getElem?_getD, List.getD_eq_getElem?_getD, List.getElem?_map]
  cases q[i]? <;> rfl
theorem qz_snoc (q : List Nat) (t : Nat) : qz (q ++ [t]) = qz q ++ [(t : Int)] := by simp [qz]
/-- a row of six, as a value -/
def av6 (fl : List Int) (s : Nat) : Value := .agg (((fl.map (Value.int .i32)).drop (s * 6)).take 6).toArray
theorem at6 {fl : List Int} {p : Nat} (h : p < fl.length) {p' : Nat} (e : p' = p) : (fl.map (Value.int .i32))[p']? = some (.int .i32 (fl.getD p 0)) := by
  subst e
  rw [List.getElem?_map, List.getD_eq_getElem?_getD, List.getElem?_eq_getElem h]; rfl
theorem av6_get {fl : List Int} {s x : Nat} (hx : x < 6) (h : s * 6 + x < fl.length) : ((((fl.map (Value.int .i32)).drop (s * 6)).take 6).toArray)[((x : Nat) : Int).toNat]? = some (.int .i32 (fl.getD (s * 6 + x) 0)) := by
  rw [Int.toNat_natCast]
  simp only [List.getElem?_toArray, List.getElem?_take, hx, if_true, List.getElem?_drop]
  exact at6 h rfl
theorem set_map6 {fl : List Int} {p p' : Nat} {b : Int} {u : Value} (e : p' = p) (hu : u = .int .i32 b) : (fl.map (Value.int .i32)).set p' u = (fl.set p b).map (Value.int .i32) := by
  subst e; subst hu; rw [List.map_set]
end Go.Sx

set_option linter.unusedVariables false
set_option linter.unusedSimpArgs false
namespace Go.Sx
open Go.RowKit
/-! ### rows of arrays: one cell of an element -/
section rowarr
variable {C : Cx} {sl : List (Nat × Value)} {own : List Asn} {dst : Option Nat} {ty : TypeId} {pos : String} {aft : Array Edge} {g : Option (Nat × Bool)}
theorem slA_add2 (v : Value) (m k : Nat) : ((slA v).add m).add k = (slA v).add (m + k) := by
  unfold Addr.add; repeat' split
  all_goals first | rfl | omega | (simp; omega) | (simp_all; done) | (congr 1; omega)
theorem Yl.idxArrR {x i : Operand} {t e n sz m : Nat} {q : IntKind} {k : Int} {v : Value} (ht : ArrT C.P t e n sz) (hx : opv ⟨sl, own⟩ x = some (.pointer (some ((slA v).add m)))) (hi : opv ⟨sl, own⟩ i = some (.int q k)) (hk : 0 ≤ k ∧ k < n) :
    Yl C ⟨sl, own⟩ ⟨dst, .indexAddr t x i, ty, pos, aft, g⟩ (.pointer (some ((slA v).add (m + k.toNat * sz)))) :=
  fun a w hs => by
    have hs1 := run_sizeOf_of ht.2 w
    rw [← slA_add2]
    simp only [execOp, opv_eval hs hx, opv_eval hs hi, Instr.indexAt, asIntOf, Sem.run_bind, Sem.run_pure, Result.andThen_ok, run_underlying ht.1, Instr.sureAddr]
    simp [hk.1, hk.2, hs1, run_underlying ht.1]
theorem Yl.loadAt {x : Operand} {t : TypeId} {v u : Value} {n sz p : Nat} {cs : List Value} (ht : OneT C.P t) (hx : opv ⟨sl, own⟩ x = some (.pointer (some ((slA v).add p)))) (hr : RdS C own v sz n cs) (hu : cs[p]? = some u) :
    Yl C ⟨sl, own⟩ ⟨dst, .load t x, ty, pos, aft, g⟩ u :=
  fun a w hs => by
    have h1 := (rd_cell (hr w hs.world) hu).1
    simp [execOp, opv_eval hs hx, Instr.loadAt, Instr.sureAddr, run_loadVar_one ht h1]
theorem Yl.idxAgg {x i : Operand} {t e n : Nat} {q : IntKind} {k : Int} {arr : Array Value} {u : Value} (ht : ArrT C.P t e n 1) (he : C.P.plainKey e = true) (hx : opv ⟨sl, own⟩ x = some (.agg arr)) (hi : opv ⟨sl, own⟩ i = some (.int q k)) (hk : 0 ≤ k ∧ k < n) (hu : arr[k.toNat]? = some u) :
    Yl C ⟨sl, own⟩ ⟨dst, .index t x i, ty, pos, aft, g⟩ u :=
  fun a w hs => by
    have hs1 := run_sizeOf_of ht.2 w
    have hp := run_part_plain (w := w) he hu
    simp only [execOp, opv_eval hs hx, opv_eval hs hi, Instr.index, asIntOf, Sem.run_bind, Sem.run_pure, Result.andThen_ok, run_underlying ht.1]
    simp [hk.1, hk.2, hs1, hp]
end rowarr
section rowarr2
variable {C : Cx} {sl : List (Nat × Value)} {own : List Asn} {ops : Array Oper} {Q : Exit → Act → World → Prop} {ty : TypeId} {pos : String} {aft : Array Edge} {g : Option (Nat × Bool)} {rest : List Oper}
/-- one cell of an owned row -/
theorem AK.storeAt (i : Nat) {t E : TypeId} {x y : Operand} {v u : Value} {n sz p : Nat} {cs cs' : List Value} (hi : own[i]? = some (row v E sz n cs)) (hs1 : (C.P.info? t).map (·.size) = some 1) (hx : opv ⟨sl, own⟩ x = some (.pointer (some ((slA v).add p)))) (hy : opv ⟨sl, own⟩ y = some u)
    (hu : u.cells = #[u]) (h1 : u.oneCell' = true) (hj : p < n * sz) (hcs : cs.set p u = cs') (hg : Grd ops sl g) (h : AK C ⟨sl, own.set i (row v E sz n cs')⟩ (wpList C.P ops Q rest)) :
    AK C ⟨sl, own⟩ (wpList C.P ops Q (⟨none, .store t x y, ty, pos, aft, g⟩ :: rest)) := by
  subst hcs
  intro a w hs
  refine wpList_step fun K hK => ?_
  rw [if_pos (wanted_of_Grd hs hg)]
  obtain ⟨hf, Fs, hh, hal⟩ := hs.world
  have hA := hh.at_ i _ hi
  obtain ⟨e1, e2, e3, e4⟩ := row_grown hA (j := p) hj u
  have hst : (store ((slA v).add p) u).run C.P w = .ok () (w.setCell ((slA v).add p) u) := by
    obtain ⟨u0, hu0⟩ := Option.isSome_iff_exists.1 e3
    rw [run_store _ _ _ _ _ h1, hu0, e4]; rfl
  have hadd : ∀ a : Addr, a.add 0 = a := fun a => by simp [Addr.add]
  have hrun : (execOp a.eval ⟨none, .store t x y, ty, pos, aft, g⟩).run C.P w = .ok .skip (w.setCell ((slA v).add p) u) := by
    simp only [execOp, opv_eval hs hx, opv_eval hs hy, Instr.storeAt, Instr.sureAddr, storeVar, Sem.run_bind, Sem.run_pure, Result.andThen_ok, run_sizeOf_of hs1, hu]
    simp [storeCells, hst, hadd]
  simp only [Oper.wp, hrun, Oper.upon]
  refine hK _ _ (h _ _ ?_)
  have hlt : i < own.length := (List.getElem?_eq_some_iff.1 hi).1
  have hup := HW.update (own2 := []) (A' := row v E sz n (cs.set p u)) hf hh hal hlt e2 (HeapAt.one (row_of e1)) (fun k b hb => .inl ((hA.2 b).2 hb.2))
  rw [List.append_nil] at hup
  exact hs.put hup (d := none) (fun i hi => by cases hi) undef
end rowarr2
end Go.Sx
namespace Go.Sx
theorem wrap_i32w {n : Int} (h : -2147483648 ≤ n ∧ n ≤ 2147483647) : IntKind.i32.wrap n = n := by simp [IntKind.wrap, IntKind.bits, IntKind.signed]; omega
end Go.Sx

set_option linter.unusedVariables false
set_option linter.unusedSimpArgs false
namespace Go.Sx
open Go.RowKit
def z6 : Value := .agg #[.int .i32 0, .int .i32 0, .int .i32 0, .int .i32 0, .int .i32 0, .int .i32 0]
theorem made6 : (madeCells z6.cells (1 * 6)).toList = (List.replicate 6 (0 : Int)).map (Value.int .i32) := by kernel_rfl
theorem z6_one : one' z6.cells.toList := by intro u hu; simp [z6, Value.cells] at hu; subst hu; rfl
theorem at6s {fl : List Int} {p p' : Nat} {b : Int} {zs : List Value} (h : p < fl.length) (e : p' = p) : ((fl.set p b).map (Value.int .i32) ++ zs)[p']? = some (.int .i32 b) := by
  subst e
  rw [List.getElem?_append_left (by simpa using h), at6 (by simpa using h) rfl, getD_set_eq h]
theorem ltr_of {c : UInt8} (h : 97 ≤ c.toNat ∧ c.toNat < 103) : ∃ x : Nat, x < 6 ∧ c = ltr x ∧ (c.toNat : Int) - 97 = x :=
  ⟨c.toNat - 97, by omega, UInt8.toNat_inj.1 (by rw [ltr_toNat (by omega)]; omega), by omega⟩
theorem take_ltr {p : Wrd} {j : Nat} (h : j < p.length) {x : Nat} (e : p.getD j 0 = ltr x) : p.take (j + 1) = p.take j ++ [ltr x] := by
  rw [take_snocD 0 p j h, e]
/-- a word over the six letters -/
def Al (p : Wrd) : Prop := p.length ≤ 2048 ∧ ∀ k, k < p.length → 97 ≤ (p.getD k 0).toNat ∧ (p.getD k 0).toNat < 103
/-- the letters of the first k patterns -/
def tot (ps : List Wrd) : Nat → Nat
  | 0 => 0
  | k + 1 => tot ps k + (ps.getD k []).length
theorem tot_le {ps : List Wrd} (h : ∀ k, k < ps.length → Al (ps.getD k [])) : ∀ k, k ≤ ps.length → tot ps k ≤ k * 2048
  | 0, _ => Nat.le_refl _
  | k + 1, hk => by
    have h1 := tot_le h k (by omega)
    have h2 := (h k (by omega)).1
    unfold tot; omega
end Go.Sx

set_option linter.unusedVariables false
set_option linter.unusedSimpArgs false
namespace Go.Sx
open Go.RowKit
/-- the patterns: the reversed Lefts that are not too long -/
def patR (m : Int) (r : Rul) : Wrd := if (r.1.length : Int) ≤ m then r.1.reverse else []
def pats (m : Int) (rs : List Rul) : List Wrd := rs.map (patR m)
theorem pats_len (m : Int) (rs : List Rul) : (pats m rs).length = rs.length := by simp [pats]
theorem pats_get (m : Int) (rs : List Rul) {k : Nat} (h : k < rs.length) : (pats m rs).getD k [] = patR m (rs.getD k ([], [])) := by
  simp [pats, List.getD_eq_getElem?_getD, List.getElem?_eq_getElem h]
theorem validW_al {L : Int} {u : Wrd} (h : validW L u = true) : Al u := by
  have := validW_iff.1 h
  exact ⟨this.1.2.2, fun k hk => by have := this.2 k hk; omega⟩
theorem al_rev {u : Wrd} (h : Al u) : Al u.reverse := by
  refine ⟨by rw [List.length_reverse]; exact h.1, fun k hk => ?_⟩
  rw [List.length_reverse] at hk
  have := h.2 (u.length - 1 - k) (by omega)
  rw [List.getD_eq_getElem?_getD, List.getElem?_reverse hk, ← List.getD_eq_getElem?_getD]; exact this
theorem al_pats {L m : Int} {rs : List Rul} (h : VR L rs) : ∀ k, k < (pats m rs).length → Al ((pats m rs).getD k []) := by
  intro k hk
  rw [pats_len] at hk
  rw [pats_get m rs hk]
  unfold patR
  split
  · exact al_rev (validW_al (h.v _ (getD_mem hk)).1)
  · exact ⟨by simp, fun k hk => by simp at hk⟩
theorem fill_skip {A : List Wrd} {c : Wrd} {n k : Nat} (hc : c = []) (hk : k < n) : A ++ List.replicate (n - k) [] = (A ++ [c]) ++ List.replicate (n - (k + 1)) [] := by
  subst hc
  rw [show n - k = (n - (k + 1)) + 1 by omega, List.replicate_succ]; simp
theorem pats_fill (m : Int) (rs : List Rul) (k : Nat) (hk : k < rs.length) : (pats m rs).take (k + 1) = (pats m rs).take k ++ [patR m (rs.getD k ([], []))] := by
  rw [take_snocD [] (pats m rs) k (by rw [pats_len]; exact hk), pats_get m rs hk]
end Go.Sx

set_option linter.unusedVariables false
set_option linter.unusedSimpArgs false
namespace Go.Sx
open Go.RowKit
/-- the state behind the first k + 1 letters -/
def StA (N : List Wrd) (T : Wrd) (k : Nat) (z : Int) : Prop := At N (lsuf N (T.take (k + 1))) z
theorem At.nat {N : List Wrd} {u : Wrd} {z : Int} (h : At N u z) : ∃ t : Nat, z = (t : Int) ∧ t < N.length := by
  obtain ⟨t, e, h1, _⟩ := h; exact ⟨t, e, h1⟩
theorem FinOK.step {ps N : List Wrd} {fl fd : List Int} (h : FinOK ps N fl fd) {T : Wrd} {k : Nat} (hk : k < T.length) {t x : Nat} (hz : At N (lsuf N (T.take k)) (t : Int)) (hx : x < 6) (hc : T.getD k 0 = ltr x) : StA N T k (fl.getD (t * 6 + x) 0) := by
  obtain ⟨t', e, h1, h2⟩ := hz
  have : t = t' := by omega
  subst this
  have := h.go t h1 x hx
  unfold StA
  rw [take_ltr hk hc, lsuf_snoc h.pc, ← h2]; exact this
theorem FinOK.at0 {ps N : List Wrd} {fl fd : List Int} (h : FinOK ps N fl fd) (T : Wrd) : At N (lsuf N (T.take 0)) 0 := ⟨0, rfl, h.z.1, h.z.2⟩
/-- the states that are read again: from k on they are old ones -/
structure RdI3 (N : List Wrd) (T : Wrd) (R : List Int) (fr k : Nat) (R' : List Int) (z : Int) : Prop where
  kl : fr ≤ k ∧ k ≤ T.length
  len : R'.length = T.length
  st : At N (lsuf N (T.take k)) z
  ok : ∀ j, j < k → StA N T j (R'.getD j 0)
  old : ∀ j, k ≤ j → R'.getD j 0 = R.getD j 0
theorem RdI3.next {N : List Wrd} {T : Wrd} {R R' : List Int} {fr k : Nat} {z y : Int} (h : RdI3 N T R fr k R' z) (hk : k < T.length) (hy : StA N T k y) : RdI3 N T R fr (k + 1) (R'.set k y) y where
  kl := by have := h.kl; omega
  len := by rw [List.length_set]; exact h.len
  st := hy
  ok := fun j hj => by
    by_cases e : j = k
    · subst e; rw [getD_set_eq (by rw [h.len]; exact hk)]; exact hy
    · rw [getD_set_ne (fun e' => e e'.symm)]; exact h.ok j (by omega)
  old := fun j hj => by rw [getD_set_ne (by omega)]; exact h.old j (by omega)
/-- the states agree: the rest is right, if old states hang together -/
theorem RdI3.stop {N : List Wrd} {T : Wrd} {R R' : List Int} {fr k sure : Nat} {z y : Int} (h : RdI3 N T R fr k R' z) (hk : k < T.length) (hy : StA N T k y) (hs : sure ≤ k) (he : R'.getD k 0 = y)
    (hc : ∀ j, sure ≤ j → j + 1 < T.length → StA N T j (R.getD j 0) → StA N T (j + 1) (R.getD (j + 1) 0)) : ∀ j, j < T.length → StA N T j (R'.getD j 0) := by
  have up : ∀ n, k + n < T.length → StA N T (k + n) (R'.getD (k + n) 0) := by
    intro n
    induction n with
    | zero => intro _; rw [Nat.add_zero, he]; exact hy
    | succ n ih =>
      intro hn
      have := ih (by omega)
      rw [h.old _ (by omega)] at this
      rw [show k + (n + 1) = k + n + 1 by omega, h.old _ (by omega)]
      exact hc _ (by omega) (by omega) this
  intro j hj
  rcases Nat.lt_or_ge j k with e | e
  · exact h.ok j e
  · have := up (j - k) (by omega)
    rw [show k + (j - k) = j by omega] at this; exact this
end Go.Sx

set_option linter.unusedVariables false
set_option linter.unusedSimpArgs false
namespace Go.Sx
open Go.RowKit
/-! ### cuts of an owned row, and copies within it -/
section cuts
variable {C : Cx} {sl : List (Nat × Value)} {own : List Asn} {dst : Option Nat} {ty : TypeId} {pos : String} {aft : Array Edge} {g : Option (Nat × Bool)}
/-- a slice of n elements -/
def CutS (C : Cx) (own : List Asn) (v : Value) (n : Nat) : Prop := ∀ w, HW C own w → ∃ ao c, v = .slice ao n c ∧ n ≤ c
theorem CutS.row (i : Nat) {v : Value} {E : TypeId} {sz n : Nat} {cs : List Value} (hi : own[i]? = some (row v E sz n cs)) : CutS C own v n := fun w hw => by
  obtain ⟨_, Fs, hhp, _⟩ := hw
  obtain ⟨hown, _⟩ := hhp.at_ i _ hi
  rcases hown.2 with ⟨rfl, rfl⟩ | ⟨gb, cp, cur, rfl, _, _, hnc, _⟩
  · exact ⟨none, 0, rfl, Nat.le_refl _⟩
  · exact ⟨_, cp, rfl, hnc⟩
theorem CutS.rowZ (i : Nat) {v : Value} {E : TypeId} {n : Nat} {cs : List Value} (hi : own[i]? = some (rowZ v E n cs)) : CutS C own v n := fun w hw => by
  obtain ⟨_, Fs, hhp, _⟩ := hw
  obtain ⟨⟨gb, cap, cur, fz, rfl, hcp, _⟩, _⟩ := hhp.at_ i _ hi
  exact ⟨_, cap, rfl, hcp⟩
/-- s[m:] -/
def slFr (v : Value) (sz m : Nat) : Value := match v with
  | .slice a n c => .slice (if c = m then a else a.map (·.add (m * sz))) (n - m) (c - m)
  | v => v
theorem Yl.sliceFr {x l : Operand} {t E : TypeId} {sz n : Nat} {v : Value} {m : Int} (hc : CutS C own v n) (ht : SlT C.P t E sz) (hx : opv ⟨sl, own⟩ x = some v) (hh : opv ⟨sl, own⟩ l = some (.int .i64 m)) (hm : 0 ≤ m ∧ m ≤ n) :
    Yl C ⟨sl, own⟩ ⟨dst, .slice t x (some l) none none, ty, pos, aft, g⟩ (slFr v sz m.toNat) :=
  fun a w hs => by
    obtain ⟨ao, c, rfl, hnc⟩ := hc w hs.world
    obtain ⟨inf, hi1, hi2⟩ := ht.inf
    simp only [execOp, opv_eval hs hx, Option.map_none, Option.map_some, opv_eval hs hh]
    simp [Instr.sliceAt, Instr.slice, Instr.sliceBounds, Instr.sliceBound, asIntOf, run_underlying ht.1, hm.1, hm.2, sizeOf, typeInfo, hi1, slFr, hi2]
theorem Yl.sliceToC {x h : Operand} {t E : TypeId} {sz n : Nat} {v : Value} {m : Int} (hc : CutS C own v n) (ht : SlT C.P t E sz) (hx : opv ⟨sl, own⟩ x = some v) (hh : opv ⟨sl, own⟩ h = some (.int .i64 m)) (hm : 0 ≤ m ∧ m ≤ n) :
    Yl C ⟨sl, own⟩ ⟨dst, .slice t x none (some h) none, ty, pos, aft, g⟩ (slTo v m.toNat) :=
  fun a w hs => by
    obtain ⟨ao, c, rfl, hnc⟩ := hc w hs.world
    obtain ⟨inf, hi1, hi2⟩ := ht.inf
    have h1 : (0 : Int) ≤ m ∧ m ≤ (c : Int) := by omega
    simp only [execOp, opv_eval hs hx, Option.map_none, Option.map_some, opv_eval hs hh]
    simp [Instr.sliceAt, Instr.slice, Instr.sliceBounds, Instr.sliceBound, asIntOf, run_underlying ht.1, h1.1, h1.2, sizeOf, typeInfo, hi1, slTo]
    intro _
    cases ao <;> simp [Addr.add]
theorem rowZ_to {w : World} {F : Nat → Prop} {v : Value} {E : TypeId} {n m : Nat} {cs : List Value} (h : (rowZ v E n cs).holds w F) (hm : m ≤ n) : (rowZ (slTo v m) E m (cs.take m)).holds w F := by
  obtain ⟨⟨gb, cap, cur, fz, rfl, hcp, hh, h1, h2, h3, h4, h5⟩, hF⟩ := h
  refine ⟨⟨gb, cap, cur, fz, rfl, by omega, hh, by omega, by omega, Nat.le_trans hm h3, by rw [List.length_take]; omega, ?_⟩, hF⟩
  rw [← h5, List.take_take, Nat.min_eq_left hm]
theorem AK.resliceZ {K : Act → World → Prop} (i : Nat) {v : Value} {E : TypeId} {n : Nat} {cs : List Value} (m : Nat) (hi : own[i]? = some (rowZ v E n cs)) (hm : m ≤ n) (h : AK C ⟨sl, own.set i (rowZ (slTo v m) E m (cs.take m))⟩ K) : AK C ⟨sl, own⟩ K :=
  fun a w hs => h a w ⟨hs.size, hs.defers, hs.slot, hs.world.elem i hi (fun F hA => rowZ_to hA hm)⟩
theorem AK.resliceZE {K : Act → World → Prop} (i : Nat) {v : Value} {E : TypeId} {n : Nat} {cs : List Value} (m : Nat) (cs' : List Value) (hi : own[i]? = some (rowZ v E n cs)) (hm : m ≤ n) (e : cs.take m = cs') (h : AK C ⟨sl, own.set i (rowZ (slTo v m) E m cs')⟩ K) : AK C ⟨sl, own⟩ K := by
  subst e; exact AK.resliceZ i m hi hm h
theorem AK.resliceE {K : Act → World → Prop} (i : Nat) {v : Value} {E : TypeId} {n : Nat} {cs : List Value} (m : Nat) (cs' : List Value) (hi : own[i]? = some (row v E 1 n cs)) (hm : m ≤ n) (e : cs.take m = cs') (h : AK C ⟨sl, own.set i (row (slTo v m) E 1 m cs')⟩ K) : AK C ⟨sl, own⟩ K := by
  subst e; exact AK.reslice i m hi hm (by rw [Nat.mul_one]; exact h)
theorem AK.shapeZ {K : Act → World → Prop} (i : Nat) {v : Value} {E : TypeId} {n : Nat} {cs : List Value} (hi : own[i]? = some (rowZ v E n cs)) (h : IsSl v → AK C ⟨sl, own⟩ K) : AK C ⟨sl, own⟩ K :=
  AK.fact (p := IsSl v) (fun w hw => by obtain ⟨a, c, e, _⟩ := CutS.rowZ i hi w hw; exact ⟨_, _, _, e⟩) h
/-- cells b on over cells a on -/
def cpy (cs : List Value) (a b : Nat) : List Value := cs.take a ++ cs.drop b ++ cs.drop (a + (cs.length - b))
theorem setCells_heap (b : Nat) (E : TypeId) (fz : Nat × Nat) : ∀ (vs : List Value) (o : Nat) (w : World) (cur : Array Value), w.heap[b]? = some (.cells cur E fz) → o + vs.length ≤ cur.size →
    ∃ cur' : Array Value, (w.setCells b o vs).heap[b]? = some (.cells cur' E fz) ∧ cur'.toList = cur.toList.take o ++ vs ++ cur.toList.drop (o + vs.length) := by
  intro vs
  induction vs with
  | nil => intro o w cur hh hl; exact ⟨cur, hh, by simp⟩
  | cons u vs ih =>
    intro o w cur hh hl
    simp only [List.length_cons] at hl
    obtain ⟨cur', h1, h2⟩ := ih (o + 1) (w.setCell ⟨b, o, none⟩ u) (cur.setIfInBounds o u) (by simp [World.setCell, Array.getElem?_modify, hh]) (by simp; omega)
    refine ⟨cur', h1, ?_⟩
    rw [h2, Array.toList_setIfInBounds]
    have := list_seg_step cur.toList o u vs (by simpa using (by omega : o + (vs.length + 1) ≤ cur.size))
    simpa [Nat.add_assoc, Nat.add_comm, Nat.add_left_comm] using this
theorem setCells_frame (b : Nat) {F : Nat → Prop} (hF : F b) : ∀ (vs : List Value) (o : Nat) (w : World), FrameX F w (w.setCells b o vs)
  | [], _, w => FrameX.refl _ w
  | u :: vs, o, w => by
    have h := setCells_frame b hF vs (o + 1) (w.setCell ⟨b, o, none⟩ u)
    have h1 : FrameX F w (w.setCell ⟨b, o, none⟩ u) := ⟨rfl, rfl, rfl, by simp, fun k _ hk => heap_setCell_other w ⟨b, o, none⟩ k u (fun e => hk (by rw [show k = b from e]; exact hF))⟩
    exact h1.step h (fun b hb _ => hb)
theorem copy_core {P : Program} {w : World} {t t' ty E : TypeId} {gb n cap a b : Nat} {cur : Array Value} {E0 : TypeId} {fz : Nat × Nat} {cs : List Value} {F : Nat → Prop} (ht : SlT P t E 1) (hh : w.heap[gb]? = some (.cells cur E0 fz)) (hn : n ≤ cur.size) (hfz : ∀ j, j < n → w.frozen? ⟨gb, j, none⟩ = false)
    (hnc : n ≤ cap) (hcl : cs.length = n) (hcs : cur.toList.take n = cs) (h1 : one' cs) (hab : a ≤ b) (hb : b ≤ n) (hF : F gb) :
    ∃ w' cur', (Builtin.copy_ #[t, t'] ty #[slFr (.slice (some ⟨gb, 0, none⟩) n cap) 1 a, slFr (.slice (some ⟨gb, 0, none⟩) n cap) 1 b]).run P w = .ok (goInt ((n - b : Nat) : Int)) w' ∧ w'.heap[gb]? = some (.cells cur' E0 fz) ∧ cur'.size = cur.size ∧ cur'.toList.take n = cpy cs a b ∧ FrameX F w w' := by
  have hcell : ∀ j, w.cell? ⟨gb, j, none⟩ = cur[j]? := fun j => rowZ_cell hh j
  by_cases h0 : n - b = 0
  · refine ⟨w, cur, ?_, hh, rfl, ?_, FrameX.refl _ w⟩
    · have := run_copy_none (P := P) w t t' ty E (if cap = a then some ⟨gb, 0, none⟩ else (some ⟨gb, 0, none⟩ : Option Addr).map (·.add (a * 1))) (if cap = b then some ⟨gb, 0, none⟩ else (some ⟨gb, 0, none⟩ : Option Addr).map (·.add (b * 1))) (n - a) (cap - a) (n - b) (cap - b) ht.1 ht.2 (by simp [h0])
      rw [h0]
      rw [h0] at this
      simpa [slFr, h0] using this
    · have : b = n := by omega
      subst this
      rw [hcs, cpy, ← hcl, List.drop_length, Nat.sub_self, Nat.add_zero, List.append_nil, List.take_append_drop]
  · have ha : cap ≠ a := by omega
    have hb' : cap ≠ b := by omega
    have e1 : slFr (.slice (some ⟨gb, 0, none⟩) n cap) 1 a = .slice (some ⟨gb, a, none⟩) (n - a) (cap - a) := by
      simp [slFr, ha, Addr.add_lit]
    have e2 : slFr (.slice (some ⟨gb, 0, none⟩) n cap) 1 b = .slice (some ⟨gb, b, none⟩) (n - b) (cap - b) := by
      simp [slFr, hb', Addr.add_lit]
    rw [e1, e2]
    have hlen : (cs.drop b).length = n - b := by rw [List.length_drop, hcl]
    have hrun := run_copy_cells (P := P) w t t' ty E gb a (n - a) (cap - a) ⟨gb, b, none⟩ (n - b) (cap - b) (cs.drop b) ht.1 ht.2 (by rw [hlen]; exact (Nat.min_eq_left (by omega)).symm)
      (fun j v hj => by
        have hj' : j < n - b := by rw [← hlen]; exact (List.getElem?_eq_some_iff.1 hj).1
        rw [Addr.add_lit, hcell]
        rw [List.getElem?_drop, ← hcs, List.getElem?_take, if_pos (by omega)] at hj
        simpa using hj)
      (fun j hj => by rw [hcell, Array.getElem?_eq_getElem (by omega)]; rfl) (fun j hj => hfz _ (by omega)) (fun v hv => h1 v (List.mem_of_mem_drop hv))
    rw [hlen] at hrun
    obtain ⟨cur', k1, k2⟩ := setCells_heap gb E0 fz (cs.drop b) a w cur hh (by omega)
    refine ⟨_, cur', hrun, k1, ?_, ?_, setCells_frame gb hF _ _ _⟩
    · have := congrArg List.length k2
      simp at this
      omega
    · rw [k2, cpy, hlen, hcl, ← hcs]
      have hl : cur.toList.length = cur.size := by simp
      rw [List.take_append, List.take_of_length_le (by simp; omega)]
      rw [List.take_take, Nat.min_eq_left (by omega), List.drop_take (i := a + (n - b))]
      congr 2
      simp
      omega
end cuts
section cuts2
variable {C : Cx} {sl : List (Nat × Value)} {own : List Asn} {ops : Array Oper} {Q : Exit → Act → World → Prop} {ty : TypeId} {pos : String} {aft : Array Edge} {g : Option (Nat × Bool)} {rest : List Oper}
theorem AK.copyIn (i : Nat) {d : Nat} {x y : Operand} {t t' E E0 : TypeId} {v : Value} {n a b : Nat} {cs : List Value} (hi : own[i]? = some (row v E0 1 n cs)) (ht : SlT C.P t E 1) (hx : opv ⟨sl, own⟩ x = some (slFr v 1 a)) (hy : opv ⟨sl, own⟩ y = some (slFr v 1 b)) (hab : a ≤ b ∧ b ≤ n) (h1 : one' cs) (hg : Grd ops sl g) (hd : Nat.blt d C.N = true)
    (h : AK C ⟨(d, .int .i64 ((n - b : Nat) : Int)) :: sl, own.set i (row v E0 1 n (cpy cs a b))⟩ (wpList C.P ops Q rest)) :
    AK C ⟨sl, own⟩ (wpList C.P ops Q (⟨some d, .call ⟨.builtin .copy, #[x, y], #[t, t']⟩, ty, pos, aft, g⟩ :: rest)) := by
  intro A w hs
  refine wpList_step fun K hK => ?_
  rw [if_pos (wanted_of_Grd hs hg)]
  obtain ⟨hf, Fs, hh, hal⟩ := hs.world
  obtain ⟨hown, hF⟩ := hh.at_ i _ hi
  have hcl : cs.length = n := by have := hown.1; omega
  have key : ∃ w', (Builtin.copy_ #[t, t'] ty #[slFr v 1 a, slFr v 1 b]).run C.P w = .ok (goInt ((n - b : Nat) : Int)) w' ∧ w'.ownsRow 0 E0 1 v n (cpy cs a b) ∧ FrameX (Fs i) w w' := by
    rcases hown.2 with ⟨rfl, hn0⟩ | ⟨gb, cap, cur, rfl, hb0, hb, hnc, hcm, hcsz, htake⟩
    · subst hn0
      have : cs = [] := List.eq_nil_of_length_eq_zero (by omega)
      subst this
      have := run_copy_none (P := C.P) w t t' ty E none none (0 - a) (0 - a) (0 - b) (0 - b) ht.1 ht.2 (by simp)
      refine ⟨w, ?_, by simpa [cpy] using hown, FrameX.refl _ w⟩
      have e : ∀ k, slFr (.slice none 0 0) 1 k = .slice none (0 - k) (0 - k) := fun k => by simp [slFr]
      rw [e, e]; simpa using this
    · obtain ⟨w', cur', k1, k2, k3, k4, k5⟩ := copy_core (P := C.P) (ty := ty) (t' := t') (F := Fs i) ht hb (by omega) (fun j _ => by simp [World.frozen?, hb]) hnc hcl (by rw [← htake, Nat.mul_one]) h1 hab.1 hab.2 ((hF gb).2 rfl)
      have hlc : (cpy cs a b).length = n := by simp [cpy, hcl]; omega
      exact ⟨w', k1, ⟨by omega, .inr ⟨gb, cap, cur', rfl, hb0, k2, hnc, hcm, by rw [k3]; exact hcsz, by rw [Nat.mul_one]; exact k4⟩⟩, k5⟩
  obtain ⟨w', e1, e2, e3⟩ := key
  have hrun : (execOp A.eval ⟨some d, .call ⟨.builtin .copy, #[x, y], #[t, t']⟩, ty, pos, aft, g⟩).run C.P w = .ok (.value (.int .i64 ((n - b : Nat) : Int))) w' := by
    simp [execOp, resolve, invoke, builtin, opv_eval hs hx, opv_eval hs hy, e1, goInt]
  simp only [Oper.wp, hrun, Oper.upon]
  refine hK _ _ (h _ _ ?_)
  have hlt : i < own.length := (List.getElem?_eq_some_iff.1 hi).1
  have hup := HW.update (own2 := []) (A' := row v E0 1 n (cpy cs a b)) hf hh hal hlt e3 (HeapAt.one (row_of e2)) (fun j b hb => .inl ((hF b).2 hb.2))
  rw [List.append_nil] at hup
  exact hs.put hup (d := some d) (fun i hi => by cases hi; simpa [Nat.blt_eq] using hd) _
theorem AK.copyZ (i : Nat) {d : Nat} {x y : Operand} {t t' E E0 : TypeId} {v : Value} {n a b : Nat} {cs : List Value} (hi : own[i]? = some (rowZ v E0 n cs)) (ht : SlT C.P t E 1) (hx : opv ⟨sl, own⟩ x = some (slFr v 1 a)) (hy : opv ⟨sl, own⟩ y = some (slFr v 1 b)) (hab : a ≤ b ∧ b ≤ n) (h1 : one' cs) (hg : Grd ops sl g) (hd : Nat.blt d C.N = true)
    (h : AK C ⟨(d, .int .i64 ((n - b : Nat) : Int)) :: sl, own.set i (rowZ v E0 n (cpy cs a b))⟩ (wpList C.P ops Q rest)) :
    AK C ⟨sl, own⟩ (wpList C.P ops Q (⟨some d, .call ⟨.builtin .copy, #[x, y], #[t, t']⟩, ty, pos, aft, g⟩ :: rest)) := by
  intro A w hs
  refine wpList_step fun K hK => ?_
  rw [if_pos (wanted_of_Grd hs hg)]
  obtain ⟨hf, Fs, hh, hal⟩ := hs.world
  have hA := hh.at_ i _ hi
  have key : ∃ w', (Builtin.copy_ #[t, t'] ty #[slFr v 1 a, slFr v 1 b]).run C.P w = .ok (goInt ((n - b : Nat) : Int)) w' ∧ (rowZ v E0 n (cpy cs a b)).holds w' (Fs i) ∧ FrameX (Fs i) w w' := by
    obtain ⟨⟨gb, cap, cur, fz, rfl, hcp, hb, h1', h2, h3, h4, h5⟩, hF⟩ := hA
    obtain ⟨w', cur', k1, k2, k3, k4, k5⟩ := copy_core (P := C.P) (ty := ty) (t' := t') (F := Fs i) ht hb h2 (fun j hj => by
      simp only [World.frozen?, hb]
      have : ¬ fz.1 ≤ j := by omega
      simp [this]) hcp h4 h5 h1 hab.1 hab.2 ((hF gb).2 rfl)
    have hlc : (cpy cs a b).length = n := by simp [cpy, h4]; omega
    exact ⟨w', k1, ⟨⟨gb, cap, cur', fz, rfl, hcp, k2, h1', by omega, h3, hlc, k4⟩, hF⟩, k5⟩
  obtain ⟨w', e1, e2, e3⟩ := key
  have hrun : (execOp A.eval ⟨some d, .call ⟨.builtin .copy, #[x, y], #[t, t']⟩, ty, pos, aft, g⟩).run C.P w = .ok (.value (.int .i64 ((n - b : Nat) : Int))) w' := by
    simp [execOp, resolve, invoke, builtin, opv_eval hs hx, opv_eval hs hy, e1, goInt]
  simp only [Oper.wp, hrun, Oper.upon]
  refine hK _ _ (h _ _ ?_)
  have hlt : i < own.length := (List.getElem?_eq_some_iff.1 hi).1
  have hup := HW.update (own2 := []) (A' := rowZ v E0 n (cpy cs a b)) hf hh hal hlt e3 (HeapAt.one e2) (fun j b hb => .inl hb.2)
  rw [List.append_nil] at hup
  exact hs.put hup (d := some d) (fun i hi => by cases hi; simpa [Nat.blt_eq] using hd) _
end cuts2
end Go.Sx

set_option linter.unusedVariables false
set_option linter.unusedSimpArgs false
namespace Go.Sx
open Go.RowKit
/-! ### one step, and many -/
def ruleAt (rs : List Rul) (u : Wrd) : Option Rul := rs.find? fun r => r.1.isPrefixOf u
def once (rs : List Rul) : Wrd → Option Wrd
  | [] => none
  | a :: u => match ruleAt rs (a :: u) with
    | some r => some (r.2 ++ (a :: u).drop r.1.length)
    | none => (once rs u).map (a :: ·)
def redF (rs : List Rul) : Nat → Wrd → Option Wrd
  | f, w => match once rs w with
    | none => some w
    | some v => match f with
      | 0 => none
      | f + 1 => redF rs f v
theorem redF_none {rs : List Rul} {f : Nat} {w : Wrd} (h : once rs w = none) : redF rs f w = some w := by
  unfold redF; rw [h]
theorem redF_some {rs : List Rul} {f : Nat} {w v : Wrd} (h : once rs w = some v) : redF rs (f + 1) w = redF rs f v := by
  conv => lhs; unfold redF
  rw [h]
theorem redF_zero {rs : List Rul} {w v : Wrd} (h : once rs w = some v) : redF rs 0 w = none := by
  unfold redF; rw [h]
theorem once_none {rs : List Rul} : ∀ {w : Wrd}, once rs w = none ↔ ∀ i, i < w.length → ruleAt rs (w.drop i) = none
  | [] => ⟨fun _ i hi => by simp at hi, fun _ => rfl⟩
  | a :: u => by
    unfold once
    constructor
    · intro h i hi
      cases hr : ruleAt rs (a :: u) with
      | some r => rw [hr] at h; cases h
      | none =>
        rw [hr] at h
        cases i with
        | zero => exact hr
        | succ i =>
          have : once rs u = none := by simpa using h
          exact once_none.1 this i (by simpa using hi)
    · intro h
      have h0 : ruleAt rs (a :: u) = none := h 0 (by simp)
      rw [h0]
      have : once rs u = none := once_none.2 fun i hi => h (i + 1) (by simpa using hi)
      simp [this]
theorem once_some {rs : List Rul} : ∀ {w : Wrd} (i : Nat) {r : Rul}, i < w.length → ruleAt rs (w.drop i) = some r → (∀ j, j < i → ruleAt rs (w.drop j) = none) → once rs w = some (w.take i ++ r.2 ++ w.drop (i + r.1.length))
  | [], i, r, hi, _, _ => by simp at hi
  | a :: u, 0, r, hi, hr, hn => by
    unfold once
    rw [show ruleAt rs (a :: u) = some r from hr]
    simp
  | a :: u, i + 1, r, hi, hr, hn => by
    unfold once
    rw [show ruleAt rs (a :: u) = none from hn 0 (by omega)]
    have := once_some (w := u) i (by simpa using hi) hr (fun j hj => hn (j + 1) (by omega))
    simp only [this, Option.map_some, List.take_succ_cons, List.cons_append]
    rw [show i + 1 + r.1.length = (i + r.1.length) + 1 by omega, List.drop_succ_cons]
theorem ruleAt_pre {rs : List Rul} {u : Wrd} {r : Rul} (h : ruleAt rs u = some r) : r.1 <+: u ∧ r ∈ rs := by
  refine ⟨?_, List.mem_of_find?_eq_some h⟩
  have := List.find?_some h
  exact List.isPrefixOf_iff_prefix.1 this
theorem ruleAt_of {rs : List Rul} {u : Wrd} {i : Nat} (hi : i < rs.length) (h : (rs.getD i ([], [])).1 <+: u) (hn : ∀ j, j < i → ¬ (rs.getD j ([], [])).1 <+: u) : ruleAt rs u = some (rs.getD i ([], [])) := by
  unfold ruleAt
  rw [List.find?_eq_some_iff_getElem]
  have e : ∀ k (hk : k < rs.length), rs.getD k ([], []) = rs[k] := fun k hk => by rw [List.getD_eq_getElem?_getD, List.getElem?_eq_getElem hk]; rfl
  refine ⟨List.isPrefixOf_iff_prefix.2 h, i, hi, (e i hi).symm, fun j hj => ?_⟩
  have := hn j hj
  rw [e j (by omega)] at this
  rw [Bool.not_eq_true', Bool.eq_false_iff]
  exact fun k => this (List.isPrefixOf_iff_prefix.1 k)
theorem ruleAt_no {rs : List Rul} {u : Wrd} (hn : ∀ j, j < rs.length → ¬ (rs.getD j ([], [])).1 <+: u) : ruleAt rs u = none := by
  unfold ruleAt
  rw [List.find?_eq_none]
  intro r hr hk
  obtain ⟨j, hj, e⟩ := mem_getD ([], []) hr
  rw [← e] at hk
  exact hn j hj (List.isPrefixOf_iff_prefix.1 hk)
def cpy' {α : Type} (R : List α) (a b : Nat) : List α := R.take a ++ R.drop b
/-! ### what the finder finds -/
theorem Lix.at {ps N : List Wrd} {fl fd : List Int} (h : FinOK ps N fl fd) {T : Wrd} {k : Nat} {t : Nat} (hz : StA N T k (t : Int)) : Lix (fun i => ps.getD i [] ≠ [] ∧ ps.getD i [] <:+ T.take (k + 1)) ps.length (fd.getD t 0) := by
  obtain ⟨t', e, h1, h2⟩ := hz
  have : t = t' := by omega
  subst this
  have := h.fnd t h1
  rw [h2] at this
  exact this.congr fun i hi => and_congr_right fun _ => ⟨fun e => e.trans (lsuf_suf N _), fun e => suf_lsuf (h.mem i hi) _ e⟩
/-- the word that a tape holds from a place on -/
def tw (T : Wrd) (k : Nat) : Wrd := (T.take (k + 1)).reverse
theorem tw_drop (T : Wrd) {k : Nat} (hk : k < T.length) : tw T k = T.reverse.drop (T.length - 1 - k) := by
  unfold tw
  rw [List.drop_reverse]
  congr 2; omega
theorem VR.left {L : Int} {rs : List Rul} (h : VR L rs) {i : Nat} (hi : i < rs.length) : (rs.getD i ([], [])).1 ≠ [] ∧ (rs.getD i ([], [])).2.length ≤ (rs.getD i ([], [])).1.length := by
  have := (h.v _ (getD_mem (d := ([], [])) hi)).2.2
  rw [slx_iff] at this
  refine ⟨fun e => ?_, by omega⟩
  rw [e] at this
  rcases this with k | ⟨k, l⟩
  · simp at k
  · have : (rs.getD i ([], [])).2 = [] := List.length_eq_zero_iff.1 (by simpa using k)
    rw [this] at l; simp [Op.bytesLess] at l
theorem pat_iff {L : Int} {m : Nat} {rs : List Rul} (hV : VR L rs) {T : Wrd} {k i : Nat} (hk : k < T.length) (hT : T.length ≤ m) (hi : i < rs.length) :
    ((pats (m : Int) rs).getD i [] ≠ [] ∧ (pats (m : Int) rs).getD i [] <:+ T.take (k + 1)) ↔ (rs.getD i ([], [])).1 <+: tw T k := by
  rw [pats_get _ rs hi]
  have hne := (hV.left hi).1
  generalize (rs.getD i ([], [])) = r at hne ⊢
  have e : r.1 <+: tw T k ↔ r.1.reverse <:+ T.take (k + 1) := by
    unfold tw
    rw [← List.reverse_suffix, List.reverse_reverse]
  unfold patR
  by_cases hl : (r.1.length : Int) ≤ m
  · rw [if_pos hl, e]
    exact ⟨fun h => h.2, fun h => ⟨by simpa using hne, h⟩⟩
  · rw [if_neg hl]
    refine ⟨fun h => absurd rfl h.1, fun h => ?_⟩
    rw [e] at h
    have := h.length_le
    rw [List.length_reverse, List.length_take] at this
    omega
theorem fd_neg {L : Int} {m : Nat} {rs : List Rul} {N : List Wrd} {fl fd : List Int} (hF : FinOK (pats (m : Int) rs) N fl fd) (hV : VR L rs) {T : Wrd} {k : Nat} (hk : k < T.length) (hT : T.length ≤ m) {t : Nat} (hz : StA N T k (t : Int)) (hn : fd.getD t 0 < 0) : ruleAt rs (tw T k) = none := by
  have := (Lix.at hF hz).neg hn
  rw [pats_len] at this
  exact ruleAt_no fun j hj h => this j hj ((pat_iff hV hk hT hj).2 h)
theorem fd_pos {L : Int} {m : Nat} {rs : List Rul} {N : List Wrd} {fl fd : List Int} (hF : FinOK (pats (m : Int) rs) N fl fd) (hV : VR L rs) {T : Wrd} {k : Nat} (hk : k < T.length) (hT : T.length ≤ m) {t : Nat} (hz : StA N T k (t : Int)) (hn : ¬ fd.getD t 0 < 0) :
    ∃ i : Nat, fd.getD t 0 = (i : Int) ∧ i < rs.length ∧ ruleAt rs (tw T k) = some (rs.getD i ([], [])) ∧ (rs.getD i ([], [])).1.reverse <:+ T.take (k + 1) := by
  obtain ⟨i, e, h1, h2, h3⟩ := (Lix.at hF hz).pos hn
  rw [pats_len] at h1
  have hp := (pat_iff hV hk hT h1).1 h2
  refine ⟨i, e, h1, ruleAt_of h1 hp (fun j hj h => h3 j hj ((pat_iff hV hk hT (by omega)).2 h)), ?_⟩
  unfold tw at hp
  rw [← List.reverse_suffix, List.reverse_reverse] at hp; exact hp
/-- the tape behind the rule that begins at a place -/
def newT (T : Wrd) (k : Nat) (r : Rul) : Wrd := T.take (k + 1 - r.1.length) ++ r.2.reverse ++ T.drop (k + 1)
theorem once_tape {rs : List Rul} {T : Wrd} {k : Nat} {r : Rul} (hk : k < T.length) (hr : ruleAt rs (tw T k) = some r) (hn : ∀ j, k < j → j < T.length → ruleAt rs (tw T j) = none) (hs : r.1.reverse <:+ T.take (k + 1)) : once rs T.reverse = some (newT T k r).reverse := by
  have hl := hs.length_le
  rw [List.length_reverse, List.length_take] at hl
  rw [tw_drop T hk] at hr
  rw [once_some (T.length - 1 - k) (by rw [List.length_reverse]; omega) hr (fun j hj => by
    have := hn (T.length - 1 - j) (by omega) (by omega)
    rw [tw_drop T (by omega), show T.length - 1 - (T.length - 1 - j) = j by omega] at this; exact this)]
  congr 1
  unfold newT
  rw [List.reverse_append, List.reverse_append, List.reverse_reverse, List.append_assoc]
  rw [List.take_reverse, List.drop_reverse, show T.length - (T.length - 1 - k) = k + 1 by omega, show T.length - (T.length - 1 - k + r.1.length) = k + 1 - r.1.length by omega]
theorem once_end {rs : List Rul} {T : Wrd} (hn : ∀ j, j < T.length → ruleAt rs (tw T j) = none) : once rs T.reverse = none := by
  refine once_none.2 fun i hi => ?_
  rw [List.length_reverse] at hi
  have := hn (T.length - 1 - i) (by omega)
  rw [tw_drop T (by omega), show T.length - 1 - (T.length - 1 - i) = i by omega] at this; exact this
theorem newT_len {T : Wrd} {k : Nat} {r : Rul} (hk : k < T.length) (hs : r.1.reverse <:+ T.take (k + 1)) (hlr : r.2.length ≤ r.1.length) : (newT T k r).length = T.length - (r.1.length - r.2.length) := by
  have hl := hs.length_le
  rw [List.length_reverse, List.length_take] at hl
  simp [newT]; omega
theorem newT_lo {T : Wrd} {k j : Nat} {r : Rul} (hk : k < T.length) (hj : j < k + 1 - r.1.length) : (newT T k r).take (j + 1) = T.take (j + 1) := by
  unfold newT
  rw [List.append_assoc, List.take_append_of_le_length (by rw [List.length_take]; omega), List.take_take, Nat.min_eq_left (by omega)]
theorem newT_hi {T : Wrd} {k j : Nat} {r : Rul} (hk : k < T.length) (hs : r.1.reverse <:+ T.take (k + 1)) (hlr : r.2.length ≤ r.1.length) (hj : k + 1 - r.1.length + r.2.length ≤ j) : (newT T k r).getD j 0 = T.getD (j + (r.1.length - r.2.length)) 0 := by
  have hl := hs.length_le
  rw [List.length_reverse, List.length_take] at hl
  unfold newT
  rw [getD_app_ge (by simp; omega), List.getD_eq_getElem?_getD, List.getElem?_drop, ← List.getD_eq_getElem?_getD]
  congr 1
  simp; omega
theorem newT_al {T : Wrd} {k : Nat} {r : Rul} (hT : ∀ k, k < T.length → 97 ≤ (T.getD k 0).toNat ∧ (T.getD k 0).toNat < 103) (h2 : Al r.2) : ∀ j, j < (newT T k r).length → 97 ≤ ((newT T k r).getD j 0).toNat ∧ ((newT T k r).getD j 0).toNat < 103 := by
  have all : ∀ c ∈ newT T k r, 97 ≤ c.toNat ∧ c.toNat < 103 := by
    intro c hc
    have hT' : ∀ c ∈ T, 97 ≤ c.toNat ∧ c.toNat < 103 := fun c hc => by
      obtain ⟨j, hj, e⟩ := mem_getD 0 hc
      rw [← e]; exact hT j hj
    unfold newT at hc
    rcases List.mem_append.1 hc with hc | hc
    · rcases List.mem_append.1 hc with hc | hc
      · exact hT' c (List.mem_of_mem_take hc)
      · obtain ⟨j, hj, e⟩ := mem_getD 0 (List.mem_reverse.1 hc)
        rw [← e]; exact h2.2 j hj
    · exact hT' c (List.mem_of_mem_drop hc)
  exact fun j hj => all _ (getD_mem hj)
/-- the states behind a step, before they are read again -/
theorem cpy_lo {R : List Int} {a b j : Nat} (hj : j < a) (ha : a ≤ R.length) : (cpy' R a b).getD j 0 = R.getD j 0 := by
  unfold cpy'
  rw [getD_app_lt (by rw [List.length_take]; omega)]
  rw [List.getD_eq_getElem?_getD, List.getElem?_take, if_pos hj, ← List.getD_eq_getElem?_getD]
theorem cpy_hi {R : List Int} {a b j : Nat} (hj : a ≤ j) (hab : a ≤ b) (hb : b ≤ R.length) : (cpy' R a b).getD j 0 = R.getD (j + (b - a)) 0 := by
  unfold cpy'
  rw [getD_app_ge (by rw [List.length_take]; omega), List.getD_eq_getElem?_getD, List.getElem?_drop, ← List.getD_eq_getElem?_getD, List.length_take]
  congr 1; omega
theorem At.inj {N : List Wrd} {u v : Wrd} {z : Int} (h : At N u z) (k : At N v z) : u = v := by
  obtain ⟨t, e, h1, h2⟩ := h
  obtain ⟨s, e', k1, k2⟩ := k
  have : t = s := by omega
  rw [← h2, ← k2, this]
/-- old states hang together -/
theorem sure_hc {ps N : List Wrd} {fl fd : List Int} (hF : FinOK ps N fl fd) {T : Wrd} {R : List Int} {k : Nat} {r : Rul} (hR : R.length = T.length) (hok : ∀ j, j < T.length → StA N T j (R.getD j 0)) (hk : k < T.length) (hs : r.1.reverse <:+ T.take (k + 1)) (hlr : r.2.length ≤ r.1.length) :
    ∀ j, k + 1 - r.1.length + r.2.length ≤ j → j + 1 < (newT T k r).length → StA N (newT T k r) j ((cpy' R (k + 1 - r.1.length + r.2.length) (k + 1)).getD j 0) → StA N (newT T k r) (j + 1) ((cpy' R (k + 1 - r.1.length + r.2.length) (k + 1)).getD (j + 1) 0) := by
  intro j hj hjl h
  have hl := hs.length_le
  rw [List.length_reverse, List.length_take] at hl
  have hlen := newT_len hk hs hlr
  rw [cpy_hi hj (by omega) (by omega)] at h
  rw [cpy_hi (by omega) (by omega) (by omega)]
  have e : k + 1 - (k + 1 - r.1.length + r.2.length) = r.1.length - r.2.length := by omega
  rw [e] at h ⊢
  generalize hd : r.1.length - r.2.length = d at h hlen ⊢
  have h0 := hok (j + d) (by omega)
  have h1 := hok (j + 1 + d) (by omega)
  unfold StA at h h0 h1 ⊢
  have heq := At.inj h h0
  have hc : (newT T k r).getD (j + 1) 0 = T.getD (j + 1 + d) 0 := by rw [newT_hi hk hs hlr (by omega), hd]
  rw [take_snocD 0 _ (j + 1) hjl, lsuf_snoc hF.pc, heq, hc, ← lsuf_snoc hF.pc]
  rw [take_snocD 0 T (j + 1 + d) (by omega)] at h1
  rw [show j + 1 + d = j + d + 1 by omega] at h1 ⊢
  exact h1
/-! ### what lies outside -/
theorem BxA.lt {w : World} {b : Nat} {cs : List Value} (h : BxA w b cs) : b < w.heap.size := by
  obtain ⟨E, h⟩ := h; exact (Array.getElem?_eq_some_iff.1 h).1
theorem BxA.off {C : Cx} {w : World} {b : Nat} {cs : List Value} (h : BxA C.W0 b cs) (hS : ¬ C.S b) (hf : FrameX C.S C.W0 w) : BxA w b cs := by
  have hl := h.lt
  obtain ⟨E, h⟩ := h
  exact ⟨E, by rw [hf.block b hl hS]; exact h⟩
theorem Rd.off {C : Cx} {w : World} {Fs : Nat → Nat → Prop} {i : Nat} {v : Value} {sz n : Nat} {cs : List Value} (h : Rd (fun b => ¬ C.S b) C.W0 v sz n cs) (hf : FrameX C.S C.W0 w) (hal : ∀ k b, Fs k b → C.W0.heap.size ≤ b ∨ C.S b) : Rd (fun b => ¬ Fs i b) w v sz n cs :=
  Rd.keep h hf fun b h1 h2 h3 => (hal i b h3).elim (fun h => by omega) h1
theorem not_Fs {C : Cx} {Fs : Nat → Nat → Prop} {i b : Nat} {cs : List Value} (h : BxA C.W0 b cs) (hS : ¬ C.S b) (hal : ∀ k b, Fs k b → C.W0.heap.size ≤ b ∨ C.S b) : ¬ Fs i b :=
  fun h3 => (hal i b h3).elim (fun k => by have := h.lt; omega) hS
theorem IsSl.to {v : Value} (h : IsSl v) (m : Nat) : IsSl (slTo v m) := by
  obtain ⟨a, n, c, rfl⟩ := h; exact ⟨_, _, _, rfl⟩
theorem one_byv (T : Wrd) : one' (T.map byv) := by
  intro u hu
  obtain ⟨c, _, rfl⟩ := List.mem_map.1 hu; rfl
theorem one_i32 (R : List Int) : one' (R.map (Value.int .i32)) := by
  intro u hu
  obtain ⟨c, _, rfl⟩ := List.mem_map.1 hu; rfl
theorem cpy_cut {α : Type} (f : α → Value) (T : List α) {a b m : Nat} (hab : a ≤ b) (hb : b ≤ T.length) (hm : m = a + (T.length - b)) : (cpy (T.map f) a b).take m = (cpy' T a b).map f := by
  subst hm
  unfold cpy cpy'
  rw [List.take_append_of_le_length (by simp; omega), List.take_of_length_le (by simp; omega), List.map_append, List.map_take, List.map_drop]
/-- Right, written backwards -/
def wrT (T R2 : Wrd) (hi k x : Nat) : Wrd := T.take (hi - x) ++ (R2.take x).reverse ++ T.drop k
theorem wrT_next {T R2 : Wrd} {hi k x : Nat} (hx : x < R2.length) (hh : R2.length ≤ hi) (hl : hi ≤ T.length) : ((wrT T R2 hi k x).map byv).set (hi - 1 - x) (byv (R2.getD x 0)) = (wrT T R2 hi k (x + 1)).map byv := by
  rw [← List.map_set]
  congr 1
  unfold wrT
  have e : T.take (hi - x) = T.take (hi - (x + 1)) ++ [T.getD (hi - (x + 1)) 0] := by
    rw [show hi - x = hi - (x + 1) + 1 by omega]; exact take_snocD 0 T _ (by omega)
  have e2 : R2.take (x + 1) = R2.take x ++ [R2.getD x 0] := take_snocD 0 R2 x hx
  rw [e, e2, show hi - 1 - x = hi - (x + 1) by omega]
  have hlen : (T.take (hi - (x + 1))).length = hi - (x + 1) := by rw [List.length_take]; omega
  simp only [List.append_assoc, List.reverse_append, List.reverse_cons, List.reverse_nil, List.nil_append, List.singleton_append]
  rw [List.set_append_right _ _ (by omega), hlen, Nat.sub_self]
  rfl
end Go.Sx

set_option linter.unusedVariables false
set_option linter.unusedSimpArgs false
namespace Go.Sx
open Go.RowKit
/-- the tape behind k steps; no rule begins at a place from e on -/
structure RedI (rs : List Rul) (N : List Wrd) (fd : List Int) (m k e : Nat) (u T : Wrd) (R : List Int) : Prop where
  kl : k ≤ 100000
  el : e ≤ T.length
  tl : T.length ≤ m
  al : ∀ j, j < T.length → 97 ≤ (T.getD j 0).toNat ∧ (T.getD j 0).toNat < 103
  rl : R.length = T.length
  ok : ∀ j, j < T.length → StA N T j (R.getD j 0)
  neg : ∀ j, e ≤ j → j < T.length → fd.getD (R.getD j 0).toNat 0 < 0
  red : redF rs (100000 - k) T.reverse = redF rs 100000 u
section
variable {rs : List Rul} {N : List Wrd} {fd fl : List Int} {m k e : Nat} {u T : Wrd} {R : List Int} {L : Int}
theorem RedI.lower (h : RedI rs N fd m k e u T R) (he : 1 ≤ e) {t : Nat} (ht : R.getD (e - 1) 0 = (t : Int)) (hn : fd.getD t 0 < 0) : RedI rs N fd m k (e - 1) u T R where
  kl := h.kl
  el := by have := h.el; omega
  tl := h.tl
  al := h.al
  rl := h.rl
  ok := h.ok
  neg := fun j h1 h2 => by
    by_cases hj : j = e - 1
    · rw [hj, ht]; exact hn
    · exact h.neg j (by omega) h2
  red := h.red
theorem RedI.no (h : RedI rs N fd m k e u T R) (hF : FinOK (pats (m : Int) rs) N fl fd) (hV : VR L rs) {j : Nat} (h1 : e ≤ j) (h2 : j < T.length) : ruleAt rs (tw T j) = none := by
  obtain ⟨t, ht, _⟩ := (h.ok j h2).nat
  have h3 := h.neg j h1 h2
  have h4 := h.ok j h2
  rw [ht] at h3 h4
  exact fd_neg hF hV h2 h.tl h4 h3
theorem RedI.stop (h : RedI rs N fd m k e u T R) (hF : FinOK (pats (m : Int) rs) N fl fd) (hV : VR L rs) (he : e = 0) : redF rs 100000 u = some T.reverse := by
  rw [← h.red]
  exact redF_none (once_end fun j hj => h.no hF hV (by omega) hj)
theorem RedI.at (h : RedI rs N fd m k e u T R) (hF : FinOK (pats (m : Int) rs) N fl fd) (hV : VR L rs) (he : 1 ≤ e) {t : Nat} (ht : R.getD (e - 1) 0 = (t : Int)) (hn : ¬ fd.getD t 0 < 0) :
    ∃ i : Nat, fd.getD t 0 = (i : Int) ∧ i < rs.length ∧ (rs.getD i ([], [])).1.reverse <:+ T.take (e - 1 + 1) ∧ once rs T.reverse = some (newT T (e - 1) (rs.getD i ([], []))).reverse := by
  have hel := h.el
  have h4 := h.ok (e - 1) (by omega)
  rw [ht] at h4
  obtain ⟨i, e1, e2, e3, e4⟩ := fd_pos hF hV (by omega) h.tl h4 hn
  exact ⟨i, e1, e2, e4, once_tape (by omega) e3 (fun j h1 h2 => h.no hF hV (by omega) h2) e4⟩
theorem RedI.limit (h : RedI rs N fd m k e u T R) (hk : k = 100000) {v : Wrd} (ho : once rs T.reverse = some v) : redF rs 100000 u = none := by
  rw [← h.red, hk, Nat.sub_self]
  exact redF_zero ho
theorem RedI.step (h : RedI rs N fd m k e u T R) (hk : k ≠ 100000) (he : 1 ≤ e) {r : Rul} (ho : once rs T.reverse = some (newT T (e - 1) r).reverse) (hs : r.1.reverse <:+ T.take (e - 1 + 1)) (hlr : r.2.length ≤ r.1.length) (hal : Al r.2)
    {R' : List Int} (hok : ∀ j, j < (newT T (e - 1) r).length → StA N (newT T (e - 1) r) j (R'.getD j 0)) (hR : R'.length = (newT T (e - 1) r).length) {e' : Nat} (he' : e' ≤ (newT T (e - 1) r).length)
    (hn : ∀ j, e' ≤ j → j < (newT T (e - 1) r).length → e - 1 < j + (r.1.length - r.2.length) ∧ R'.getD j 0 = R.getD (j + (r.1.length - r.2.length)) 0) : RedI rs N fd m (k + 1) e' u (newT T (e - 1) r) R' where
  kl := by have := h.kl; omega
  el := he'
  tl := by rw [newT_len (by have := h.el; omega) hs hlr]; have := h.tl; omega
  al := newT_al h.al hal
  rl := hR
  ok := hok
  neg := fun j h1 h2 => by
    obtain ⟨h3, h4⟩ := hn j h1 h2
    rw [h4]
    rw [newT_len (by have := h.el; omega) hs hlr] at h2
    exact h.neg _ (by omega) (by omega)
  red := by
    rw [← h.red, show 100000 - k = (100000 - (k + 1)) + 1 by have := h.kl; omega, redF_some ho]
theorem RedI.init (hu : Al u) (hm : u.length ≤ m) {R : List Int} (hok : ∀ j, j < u.reverse.length → StA N u.reverse j (R.getD j 0)) (hR : R.length = u.reverse.length) : RedI rs N fd m 0 u.reverse.length u u.reverse R where
  kl := by omega
  el := Nat.le_refl _
  tl := by rw [List.length_reverse]; exact hm
  al := (al_rev hu).2
  rl := hR
  ok := hok
  neg := fun j h1 h2 => by omega
  red := by rw [List.reverse_reverse]
/-- what reduce answers -/
def redV (rs : List Rul) (u : Wrd) : Wrd := (redF rs 100000 u).getD []
def redE (rs : List Rul) (u : Wrd) : Int := if (redF rs 100000 u).isSome then 0 else 3
theorem red_some {rs : List Rul} {u v : Wrd} (h : redF rs 100000 u = some v) : redV rs u = v ∧ redE rs u = 0 := by simp [redV, redE, h]
theorem red_none {rs : List Rul} {u : Wrd} (h : redF rs 100000 u = none) : redV rs u = [] ∧ redE rs u = 3 := by simp [redV, redE, h]
end
end Go.Sx

set_option linter.unusedVariables false
set_option linter.unusedSimpArgs false
namespace Go.Sx
open Go.RowKit
def RedV (rs : List Rul) (u : Wrd) : Wrd := if errR 6 rs = 0 ∧ validW 6 u = true then redV rs u else []
def RedE (rs : List Rul) (u : Wrd) : Int := if errR 6 rs ≠ 0 then errR 6 rs else if validW 6 u = true then redE rs u else 1
theorem Rd.ownG {C : Cx} {on : List Asn} {w : World} {v : Value} {E : TypeId} {sz n : Nat} {cs : List Value} (i : Nat) (hw : HW C on w) (hi : on[i]? = some (row v E sz n cs)) : Rd (fun _ => ¬ False) w v sz n cs :=
  (RdS.own (C := C) i hi w hw).mono fun b _ _ => ⟨id, rfl⟩
def aRul : List Rul := [([98, 97], [97, 98])]
theorem awake_f : redF aRul 100000 [98, 97, 98] = some [97, 98, 98] := by
  rw [redF_some (f := 99999) (v := [97, 98, 98]) (by rfl)]
  exact redF_none (by rfl)
theorem awake_err : errR 6 aRul = 0 := by decide +kernel
theorem awake_val : validW 6 [98, 97, 98] = true := by decide +kernel
theorem awake_v : RedV [([98, 97], [97, 98])] [98, 97, 98] = [97, 98, 98] :=
  (if_pos ⟨awake_err, awake_val⟩).trans (red_some awake_f).1
theorem awake_e : RedE [([98, 97], [97, 98])] [98, 97, 98] = 0 :=
  (if_neg (fun h => h awake_err)).trans ((if_pos awake_val).trans (red_some awake_f).2)
end Go.Sx

set_option linter.unusedVariables false
set_option linter.unusedSimpArgs false
namespace Go.Sx
open Go.RowKit
theorem ext_lt {P : Nat → Prop} {n : Nat} (h : ∀ j, j < n → P j) (hn : P n) : ∀ j, j < n + 1 → P j := fun j hj => by
  rcases Nat.lt_or_ge j n with k | k
  · exact h j k
  · rw [show j = n by omega]; exact hn
theorem noPre_eq {L u : Wrd} (h : ¬ u.take L.length = L) : ¬ L <+: u := fun k => h (List.prefix_iff_eq_take.1 k).symm
theorem noPre_len {L u : Wrd} (h : u.length < L.length) : ¬ L <+: u := fun k => by have := k.length_le; omega
theorem pre_eq {L u : Wrd} (h : u.take L.length = L) : L <+: u := List.prefix_iff_eq_take.2 h.symm
/-- what once answers -/
def onV (rs : List Rul) (u : Wrd) : Wrd := (once rs u).getD u
theorem on_some {rs : List Rul} {u v : Wrd} (h : once rs u = some v) : onV rs u = v ∧ (once rs u).isSome = true := by simp [onV, h]
theorem on_none {rs : List Rul} {u : Wrd} (h : once rs u = none) : onV rs u = u ∧ (once rs u).isSome = false := by simp [onV, h]
theorem once_shape {rs : List Rul} : ∀ {u v : Wrd}, once rs u = some v → ∃ i r, r ∈ rs ∧ r.1 <+: u.drop i ∧ i < u.length ∧ v = u.take i ++ r.2 ++ u.drop (i + r.1.length)
  | [], v, h => by cases h
  | a :: u, v, h => by
    unfold once at h
    cases hr : ruleAt rs (a :: u) with
    | some r =>
      rw [hr] at h
      cases h
      obtain ⟨h1, h2⟩ := ruleAt_pre hr
      exact ⟨0, r, h2, h1, by simp, by simp⟩
    | none =>
      rw [hr] at h
      cases ho : once rs u with
      | none => rw [ho] at h; cases h
      | some w =>
        rw [ho] at h
        cases h
        obtain ⟨i, r, h1, h2, h3, h4⟩ := once_shape ho
        exact ⟨i + 1, r, h1, h2, by simpa using h3, by rw [h4, show i + 1 + r.1.length = (i + r.1.length) + 1 by omega]; simp⟩
theorem Al.app {u v : Wrd} (hu : ∀ c ∈ u, 97 ≤ c.toNat ∧ c.toNat < 103) (hv : ∀ c ∈ v, 97 ≤ c.toNat ∧ c.toNat < 103) : ∀ c ∈ u ++ v, 97 ≤ c.toNat ∧ c.toNat < 103 := fun c hc =>
  (List.mem_append.1 hc).elim (hu c) (hv c)
theorem Al.mem {u : Wrd} (h : Al u) : ∀ c ∈ u, 97 ≤ c.toNat ∧ c.toNat < 103 := fun c hc => by
  obtain ⟨j, hj, e⟩ := mem_getD 0 hc
  rw [← e]; exact h.2 j hj
theorem Al.mk' {u : Wrd} (hl : u.length ≤ 2048) (h : ∀ c ∈ u, 97 ≤ c.toNat ∧ c.toNat < 103) : Al u := ⟨hl, fun k hk => h _ (getD_mem hk)⟩
theorem once_al {L : Int} {rs : List Rul} (hV : VR L rs) {u v : Wrd} (hu : Al u) (h : once rs u = some v) : Al v ∧ v.length ≤ u.length := by
  obtain ⟨i, r, h1, h2, h3, rfl⟩ := once_shape h
  obtain ⟨k, hk, e⟩ := mem_getD ([], []) h1
  have hlr := (hV.left hk).2
  rw [e] at hlr
  have hl := h2.length_le
  rw [List.length_drop] at hl
  have hlen : (u.take i ++ r.2 ++ u.drop (i + r.1.length)).length ≤ u.length := by simp; omega
  have ha := validW_al (hV.v r h1).2.1
  exact ⟨Al.mk' (Nat.le_trans hlen hu.1) (Al.app (Al.app (fun c hc => hu.mem c (List.mem_of_mem_take hc)) ha.mem) (fun c hc => hu.mem c (List.mem_of_mem_drop hc))), hlen⟩
/-- the reference's loop -/
theorem red_go {rs : List Rul} {u v w : Wrd} {k : Nat} (h : redF rs (100000 - k) v = redF rs 100000 u) (hk : k ≤ 100000) (hn : k ≠ 100000) (ho : once rs v = some w) : redF rs (100000 - (k + 1)) w = redF rs 100000 u := by
  rw [← h, show 100000 - k = (100000 - (k + 1)) + 1 by omega, redF_some ho]
theorem red_end {rs : List Rul} {u v : Wrd} {k : Nat} (h : redF rs (100000 - k) v = redF rs 100000 u) (ho : once rs v = none) : redF rs 100000 u = some v := by
  rw [← h, redF_none ho]
theorem red_lim {rs : List Rul} {u v w : Wrd} {k : Nat} (h : redF rs (100000 - k) v = redF rs 100000 u) (hn : k = 100000) (ho : once rs v = some w) : redF rs 100000 u = none := by
  rw [← h, hn, Nat.sub_self, redF_zero ho]
/-- no rule can be applied, by strings.Contains -/
theorem contains_iff (u L : Wrd) : Lib.contains u L = true ↔ ∃ i, i ≤ u.length ∧ L <+: u.drop i := by
  unfold Lib.contains
  rw [decide_eq_true_eq]
  rcases Lib.index_spec u L with ⟨h, hn⟩ | ⟨i, h, hi, ho, _⟩
  · rw [h]
    refine ⟨fun k => by omega, fun ⟨i, hi, hp⟩ => ?_⟩
    have := hn i hi
    unfold Lib.occAt at this
    rw [List.isPrefixOf_iff_prefix.2 hp] at this; cases this
  · rw [h]
    exact ⟨fun _ => ⟨i, hi, List.isPrefixOf_iff_prefix.1 ho⟩, fun _ => by omega⟩
theorem ruleAt_none_iff {rs : List Rul} {u : Wrd} : ruleAt rs u = none ↔ ∀ j, j < rs.length → ¬ (rs.getD j ([], [])).1 <+: u := by
  refine ⟨fun h j hj hp => ?_, ruleAt_no⟩
  unfold ruleAt at h
  rw [List.find?_eq_none] at h
  exact h _ (getD_mem hj) (List.isPrefixOf_iff_prefix.2 hp)
theorem no_once {L : Int} {rs : List Rul} (hV : VR L rs) {u : Wrd} : once rs u = none ↔ ∀ j, j < rs.length → ¬ Lib.contains u (rs.getD j ([], [])).1 = true := by
  rw [once_none]
  constructor
  · intro h j hj hc
    obtain ⟨i, hi, hp⟩ := (contains_iff _ _).1 hc
    have hne := (hV.left hj).1
    have hil : i < u.length := by
      rcases Nat.lt_or_ge i u.length with k | k
      · exact k
      · rw [List.drop_eq_nil_of_le k] at hp
        exact absurd (List.prefix_nil.1 hp) hne
    exact ruleAt_none_iff.1 (h i hil) j hj hp
  · intro h i hi
    exact ruleAt_none_iff.2 fun j hj hp => h j hj ((contains_iff _ _).2 ⟨i, by omega, hp⟩)
/-- the reference's answer, for valid rules -/
def RefV (rs : List Rul) (u : Wrd) : Wrd := if validW 6 u = true then redV rs u else []
def RefE (rs : List Rul) (u : Wrd) : Int := if validW 6 u = true then redE rs u else 1
/-- the cell of bytealg.MaxLen holds a number -/
def MxA (w : World) : Prop := ∃ m, w.cell? ⟨0, 0, none⟩ = some (.int .i64 m)
theorem MxA.at {C : Cx} {own : List Asn} {w : World} (h : MxA C.W0) (hw : HW C own w) (hS : ∀ b, ¬ C.S b := by exact fun _ h => h) : MxA w := by
  obtain ⟨m, hm⟩ := h
  have hf := hw.frame
  have hlt : 0 < C.W0.heap.size := by
    unfold World.cell? at hm
    rcases Nat.lt_or_ge 0 C.W0.heap.size with k | k
    · exact k
    · rw [Array.getElem?_eq_none (by simpa using k)] at hm; simp at hm
  exact ⟨m, by rw [World.cell?_of_block (hf.block 0 hlt (hS 0))]; exact hm⟩
end Go.Sx

set_option linter.unusedVariables false
set_option linter.unusedSimpArgs false
namespace Go.Sx
open Go.RowKit
/-! ### ranging over a string; cuts of strings -/
def iterA (b : Nat) (l : List UInt8) (k : Nat) : Asn where
  holds w F := w.heap[b]? = some (.stringIter ⟨l.toArray⟩ k) ∧ ∀ c, F c ↔ c = b
  loc := by
    rintro w w' F ⟨h1, hF⟩ hb
    exact ⟨by rw [hb b ((hF b).2 rfl)]; exact h1, hF⟩
  lt := by
    rintro w F ⟨h1, hF⟩ c hc
    rw [(hF c).1 hc]
    exact (Array.getElem?_eq_some_iff.1 h1).1
section iters
variable {C : Cx} {sl : List (Nat × Value)} {own : List Asn} {ops : Array Oper} {Q : Exit → Act → World → Prop} {ty : TypeId} {pos : String} {aft : Array Edge} {g : Option (Nat × Bool)} {rest : List Oper}
theorem AK.rangeS {d : Nat} {t : TypeId} {x : Operand} {l : List UInt8} (ht : C.P.underlying t = some .string) (hx : opv ⟨sl, own⟩ x = some (sv l)) (hg : Grd ops sl g) (hd : Nat.blt d C.N = true)
    (h : ∀ b, AK C ⟨(d, .pointer (some ⟨b, 0, none⟩)) :: sl, own ++ [iterA b l 0]⟩ (wpList C.P ops Q rest)) :
    AK C ⟨sl, own⟩ (wpList C.P ops Q (⟨some d, .range t x, ty, pos, aft, g⟩ :: rest)) := by
  intro a w hs
  refine wpList_step fun K hK => ?_
  rw [if_pos (wanted_of_Grd hs hg)]
  have hrun : (execOp a.eval ⟨some d, .range t x, ty, pos, aft, g⟩).run C.P w = .ok (.value (.pointer (some ⟨w.heap.size, 0, none⟩))) (w.iter ⟨l.toArray⟩ 0) := by
    simp only [execOp, opv_eval hs hx, sv, Sem.run_bind, run_range_string w t _ ht, Result.andThen_ok, Sem.run_pure]
  simp only [Oper.wp, hrun, Oper.upon]
  refine hK _ _ (h w.heap.size _ _ ?_)
  have hZ : (iterA w.heap.size l 0).holds (w.iter ⟨l.toArray⟩ 0) (fun c => c = w.heap.size) := ⟨World.iter_heap w _ 0, fun _ => Iff.rfl⟩
  have hfr : FrameX (fun _ => False) w (w.iter ⟨l.toArray⟩ 0) :=
    ⟨rfl, rfl, rfl, by show w.heap.size ≤ (w.heap.push _).size; simp, fun k hk _ => by show (w.heap.push _)[k]? = _; simp [Array.getElem?_push, Nat.ne_of_lt hk]⟩
  refine hs.put (hs.world.push hfr (HeapAt.one hZ) (fun j b hb => ?_)) (d := some d) (fun i hi => by cases hi; simpa [Nat.blt_eq] using hd) _
  have := hb.2; omega
theorem run_next_in {P : Program} (w : World) (b : Nat) (l : List UInt8) (k : Nat) (ty : TypeId) (hh : w.heap[b]? = some (.stringIter ⟨l.toArray⟩ k)) (h : k < l.length) (ha : (l.getD k 0).toNat < 128) :
    (Instr.next (.pointer (some ⟨b, 0, none⟩)) true ty).run P w = .ok (.tuple #[.bool true, .int .i64 (k : Int), .int .i32 ((l.getD k 0).toNat : Int)]) { w with heap := w.heap.setIfInBounds b (.stringIter ⟨l.toArray⟩ (k + 1)) } := by
  have hsz : k < (⟨l.toArray⟩ : ByteArray).size := by simpa [ByteArray.size] using h
  have hb : (⟨l.toArray⟩ : ByteArray)[k]'hsz = l.getD k 0 := by
    rw [List.getD_eq_getElem?_getD, List.getElem?_eq_getElem h]; rfl
  have hd := decode_ascii ⟨l.toArray⟩ k hsz (by rw [hb]; exact ha)
  rw [hb] at hd
  have hlt : b < w.heap.size := (Array.getElem?_eq_some_iff.1 hh).1
  simp only [Instr.next, getObj, setObj, Sem.run_bind, Sem.run, hh, Result.andThen, hsz, if_true, hd]
  simp [goInt, Sem.run, hh]
theorem run_next_out {P : Program} (w : World) (b : Nat) (l : List UInt8) (k : Nat) (ty : TypeId) (hh : w.heap[b]? = some (.stringIter ⟨l.toArray⟩ k)) (h : ¬ k < l.length) :
    (Instr.next (.pointer (some ⟨b, 0, none⟩)) true ty).run P w = .ok (.tuple #[.bool false]) w := by
  have hsz : ¬ k < (⟨l.toArray⟩ : ByteArray).size := by simpa [ByteArray.size] using h
  simp [Instr.next, getObj, Sem.run, hh, hsz]
theorem AK.nextC (i : Nat) {d b k : Nat} {x : Operand} {l : List UInt8} (hi : own[i]? = some (iterA b l k)) (hx : opv ⟨sl, own⟩ x = some (.pointer (some ⟨b, 0, none⟩))) (ha : k < l.length → (l.getD k 0).toNat < 128) (hg : Grd ops sl g) (hd : Nat.blt d C.N = true)
    (h1 : k < l.length → AK C ⟨(d, .tuple #[.bool true, .int .i64 (k : Int), .int .i32 ((l.getD k 0).toNat : Int)]) :: sl, own.set i (iterA b l (k + 1))⟩ (wpList C.P ops Q rest))
    (h2 : ¬ k < l.length → AK C ⟨(d, .tuple #[.bool false]) :: sl, own⟩ (wpList C.P ops Q rest)) :
    AK C ⟨sl, own⟩ (wpList C.P ops Q (⟨some d, .next x true, ty, pos, aft, g⟩ :: rest)) := by
  intro a w hs
  refine wpList_step fun K hK => ?_
  rw [if_pos (wanted_of_Grd hs hg)]
  obtain ⟨hf, Fs, hh, hal⟩ := hs.world
  obtain ⟨hb, hF⟩ := hh.at_ i _ hi
  by_cases hk : k < l.length
  · have hrun : (execOp a.eval ⟨some d, .next x true, ty, pos, aft, g⟩).run C.P w = .ok (.value (.tuple #[.bool true, .int .i64 (k : Int), .int .i32 ((l.getD k 0).toNat : Int)])) { w with heap := w.heap.setIfInBounds b (.stringIter ⟨l.toArray⟩ (k + 1)) } := by
      simp only [execOp, opv_eval hs hx, Sem.run_bind, run_next_in w b l k _ hb hk (ha hk), Result.andThen_ok, Sem.run_pure]
    simp only [Oper.wp, hrun, Oper.upon]
    refine hK _ _ (h1 hk _ _ ?_)
    have hbl : b < w.heap.size := (Array.getElem?_eq_some_iff.1 hb).1
    have hlt : i < own.length := (List.getElem?_eq_some_iff.1 hi).1
    have hZ : (iterA b l (k + 1)).holds { w with heap := w.heap.setIfInBounds b (.stringIter ⟨l.toArray⟩ (k + 1)) } (Fs i) := ⟨by simp [hbl], hF⟩
    have hfr : FrameX (Fs i) w { w with heap := w.heap.setIfInBounds b (.stringIter ⟨l.toArray⟩ (k + 1)) } :=
      ⟨rfl, rfl, rfl, by simp, fun j _ hj => by
        have : b ≠ j := fun e => hj ((hF j).2 e.symm)
        simp [Array.getElem?_setIfInBounds, this]⟩
    have hup := HW.update (own2 := []) (A' := iterA b l (k + 1)) hf hh hal hlt hfr (HeapAt.one hZ) (fun j b hb => .inl hb.2)
    rw [List.append_nil] at hup
    exact hs.put hup (d := some d) (fun i hi => by cases hi; simpa [Nat.blt_eq] using hd) _
  · have hrun : (execOp a.eval ⟨some d, .next x true, ty, pos, aft, g⟩).run C.P w = .ok (.value (.tuple #[.bool false])) w := by
      simp only [execOp, opv_eval hs hx, Sem.run_bind, run_next_out w b l k _ hb hk, Result.andThen_ok, Sem.run_pure]
    simp only [Oper.wp, hrun, Oper.upon]
    refine hK _ _ (h2 hk _ _ ?_)
    exact hs.put ⟨hf, Fs, hh, hal⟩ (d := some d) (fun i hi => by cases hi; simpa [Nat.blt_eq] using hd) _
end iters
section cutstr
variable {C : Cx} {sl : List (Nat × Value)} {own : List Asn} {dst : Option Nat} {ty : TypeId} {pos : String} {aft : Array Edge} {g : Option (Nat × Bool)}
theorem sv_extract (l : List UInt8) (a b : Nat) : (.string ((⟨l.toArray⟩ : ByteArray).extract a b) : Value) = sv ((l.drop a).take (b - a)) := by
  rw [ByteArray.extract_mk]; rfl
theorem Yl.subS {x lo hi : Operand} {t : TypeId} {l : List UInt8} {a b : Int} (ht : C.P.underlying t = some .string) (hx : opv ⟨sl, own⟩ x = some (sv l)) (h1 : opv ⟨sl, own⟩ lo = some (.int .i64 a)) (h2 : opv ⟨sl, own⟩ hi = some (.int .i64 b)) (ha : 0 ≤ a ∧ a ≤ b) (hb : b ≤ l.length) :
    Yl C ⟨sl, own⟩ ⟨dst, .slice t x (some lo) (some hi) none, ty, pos, aft, g⟩ (sv ((l.drop a.toNat).take (b.toNat - a.toNat))) :=
  fun A w hs => by
    have hsz : (⟨l.toArray⟩ : ByteArray).size = l.length := by simp [ByteArray.size]
    have k1 : (0 : Int) ≤ b ∧ b ≤ (l.length : Int) := by omega
    have k2 : (0 : Int) ≤ a ∧ a ≤ ((b.toNat : Nat) : Int) := by omega
    rw [← sv_extract]
    simp only [execOp, opv_eval hs hx, Option.map_none, Option.map_some, opv_eval hs h1, opv_eval hs h2, sv]
    simp only [Instr.sliceAt, Instr.slice, Instr.sliceBounds, Instr.sliceBound, asIntOf, Sem.run_bind, Sem.run_pure, Result.andThen_ok, run_underlying ht, hsz, k1, k2, and_self, if_true, Option.isSome_none, Bool.false_eq_true, if_false]
theorem Yl.subTo {x hi : Operand} {t : TypeId} {l : List UInt8} {b : Int} (ht : C.P.underlying t = some .string) (hx : opv ⟨sl, own⟩ x = some (sv l)) (h2 : opv ⟨sl, own⟩ hi = some (.int .i64 b)) (hb : 0 ≤ b ∧ b ≤ l.length) :
    Yl C ⟨sl, own⟩ ⟨dst, .slice t x none (some hi) none, ty, pos, aft, g⟩ (sv (l.take b.toNat)) :=
  fun A w hs => by
    have hsz : (⟨l.toArray⟩ : ByteArray).size = l.length := by simp [ByteArray.size]
    have k1 : (0 : Int) ≤ b ∧ b ≤ (l.length : Int) := by omega
    have e := sv_extract l 0 b.toNat
    rw [List.drop_zero, Nat.sub_zero] at e
    rw [← e]
    simp only [execOp, opv_eval hs hx, Option.map_none, Option.map_some, opv_eval hs h2, sv]
    simp only [Instr.sliceAt, Instr.slice, Instr.sliceBounds, Instr.sliceBound, asIntOf, Sem.run_bind, Sem.run_pure, Result.andThen_ok, run_underlying ht, hsz, k1, and_self, if_true, Option.isSome_none, Bool.false_eq_true, if_false]
theorem Yl.subFr {x lo : Operand} {t : TypeId} {l : List UInt8} {a : Int} (ht : C.P.underlying t = some .string) (hx : opv ⟨sl, own⟩ x = some (sv l)) (h1 : opv ⟨sl, own⟩ lo = some (.int .i64 a)) (ha : 0 ≤ a ∧ a ≤ l.length) :
    Yl C ⟨sl, own⟩ ⟨dst, .slice t x (some lo) none none, ty, pos, aft, g⟩ (sv (l.drop a.toNat)) :=
  fun A w hs => by
    have hsz : (⟨l.toArray⟩ : ByteArray).size = l.length := by simp [ByteArray.size]
    have k1 : (0 : Int) ≤ a ∧ a ≤ (l.length : Int) := by omega
    have e := sv_extract l a.toNat l.length
    rw [List.take_of_length_le (by simp)] at e
    rw [← e]
    simp only [execOp, opv_eval hs hx, Option.map_none, Option.map_some, opv_eval hs h1, sv]
    simp only [Instr.sliceAt, Instr.slice, Instr.sliceBounds, Instr.sliceBound, asIntOf, Sem.run_bind, Sem.run_pure, Result.andThen_ok, run_underlying ht, hsz, k1, and_self, if_true, Option.isSome_none, Bool.false_eq_true, if_false]
end cutstr
end Go.Sx

set_option linter.unusedVariables false
set_option linter.unusedSimpArgs false
namespace Go.Sx
open Go.RowKit
/-- few and short rules -/
def litV (L m : Int) (rs : List Rul) : Bool := decide (errR L rs = 0) && (decide ((rs.length : Int) ≤ m) && rs.all fun r => decide (r.1.length ≤ 6))
theorem lit_iff {L m : Int} {rs : List Rul} : litV L m rs = true ↔ errR L rs = 0 ∧ (rs.length : Int) ≤ m ∧ ∀ k, k < rs.length → (rs.getD k ([], [])).1.length ≤ 6 := by
  unfold litV
  rw [Bool.and_eq_true, Bool.and_eq_true, decide_eq_true_eq, decide_eq_true_eq, List.all_eq_true]
  refine and_congr_right fun _ => and_congr_right fun _ => ⟨fun h k hk => by simpa using h _ (getD_mem hk), fun h r hr => ?_⟩
  obtain ⟨k, hk, e⟩ := mem_getD ([], []) hr
  rw [← e]; simpa using h k hk
theorem lit_no {L m : Int} {rs : List Rul} (h : ¬ (errR L rs = 0 ∧ (rs.length : Int) ≤ m ∧ ∀ k, k < rs.length → (rs.getD k ([], [])).1.length ≤ 6)) : litV L m rs = false := by
  cases hl : litV L m rs
  · rfl
  · exact absurd (lit_iff.1 hl) h
/-! ### one step lessens the word -/
theorem red_cases (rs : List Rul) (u : Wrd) : (∃ v, redF rs 100000 u = some v ∧ redV rs u = v ∧ redE rs u = 0) ∨ (redF rs 100000 u = none ∧ redV rs u = [] ∧ redE rs u = 3) := by
  cases h : redF rs 100000 u with
  | some v => exact .inl ⟨v, rfl, red_some h⟩
  | none => exact .inr ⟨rfl, red_none h⟩
theorem al_valid {u : Wrd} (h : Al u) : validW 6 u = true := validW_iff.2 ⟨⟨by omega, by omega, h.1⟩, fun k hk => by have := h.2 k hk; omega⟩
end Go.Sx

set_option linter.unusedVariables false
set_option linter.unusedSimpArgs false
namespace Go.Sx
open Go.RowKit
/-! ### a range over a function -/
def objA (b : Nat) (o : Obj) : Asn where
  holds w F := w.heap[b]? = some o ∧ ∀ c, F c ↔ c = b
  loc := by
    rintro w w' F ⟨h1, hF⟩ hb
    exact ⟨by rw [hb b ((hF b).2 rfl)]; exact h1, hF⟩
  lt := by
    rintro w F ⟨h1, hF⟩ c hc
    rw [(hF c).1 hc]
    exact (Array.getElem?_eq_some_iff.1 h1).1
def exA {X : Type} (p : X → Prop) (A : X → Asn) : Asn where
  holds w F := ∃ x, p x ∧ (A x).holds w F
  loc := by
    rintro w w' F ⟨x, hp, hx⟩ hb
    exact ⟨x, hp, (A x).loc w w' F hx hb⟩
  lt := by
    rintro w F ⟨x, hp, hx⟩ c hc
    exact (A x).lt w F hx c hc
theorem HW.exE {C : Cx} {own : List Asn} {w : World} {X : Type} {p : X → Prop} {A : X → Asn} (i : Nat) (hi : own[i]? = some (exA p A)) (h : HW C own w) : ∃ x, p x ∧ HW C (own.set i (A x)) w := by
  obtain ⟨hf, Fs, hh, hal⟩ := h
  obtain ⟨x, hp, hx⟩ := hh.at_ i _ hi
  refine ⟨x, hp, hf, Fs, ⟨fun k B hk => ?_, fun k hk b hb => hh.out k (by simpa using hk) b hb, hh.apart⟩, hal⟩
  by_cases hki : i = k
  · subst hki
    have hlt := (List.getElem?_eq_some_iff.1 hi).1
    simp [hlt] at hk
    subst hk
    exact hx
  · rw [List.getElem?_set_ne hki] at hk; exact hh.at_ k B hk
theorem HW.exI {C : Cx} {own : List Asn} {w : World} {X : Type} {p : X → Prop} {A : X → Asn} (i : Nat) (x : X) (hp : p x) (hi : own[i]? = some (A x)) (h : HW C own w) : HW C (own.set i (exA p A)) w :=
  HW.elem i hi (fun F hA => ⟨x, hp, hA⟩) h
theorem HW.setObj {C : Cx} {own : List Asn} {w : World} {b : Nat} {o : Obj} (i : Nat) (o' : Obj) (hi : own[i]? = some (objA b o)) (h : HW C own w) : HW C (own.set i (objA b o')) (w.putObj b o') := by
  obtain ⟨hf, Fs, hh, hal⟩ := h
  obtain ⟨hb, hF⟩ := hh.at_ i _ hi
  have hbl : b < w.heap.size := (Array.getElem?_eq_some_iff.1 hb).1
  have hlt : i < own.length := (List.getElem?_eq_some_iff.1 hi).1
  have hfr : FrameX (Fs i) w (w.putObj b o') := ⟨rfl, rfl, rfl, by simp, fun j _ hj => World.putObj_heap_other (fun e => hj ((hF j).2 e))⟩
  have hup := HW.update (own2 := []) (A' := objA b o') hf hh hal hlt hfr (HeapAt.one (⟨World.putObj_heap_same hbl, hF⟩ : (objA b o').holds _ (Fs i))) (fun j b hb => .inl hb.2)
  rw [List.append_nil] at hup
  exact hup
abbrev WR (l : Nat) : Fence := Fence.wide.inRound l
def noDefer (l : List Oper) : Bool := l.all fun o => match o.op with | .defer _ => false | _ => true
theorem noDefer_of {l : List Oper} (h : noDefer l = true) : ∀ o ∈ l, ∀ c, o.op ≠ .defer c := fun o ho c e => by
  have := List.all_eq_true.1 h o ho
  rw [e] at this; cases this
theorem wpList_round {P : Program} {ops : Array Oper} {Q : Exit → Act → World → Prop} (lr : Nat) (hQ : ∀ a w, ¬ Q .outgrown a w) : ∀ (l : List Oper), (∀ o ∈ l, ∀ c, o.op ≠ .defer c) → ∀ a w, wpList P ops Q l a w → wpListIn (WR lr) 0 P ops Q l a w
  | [], _, _, _, h => h
  | o :: l, hl, a, w, h => by
    have ih := wpList_round (P := P) (ops := ops) lr hQ l (fun o ho => hl o (List.mem_cons_of_mem _ ho))
    unfold wpList at h
    unfold wpListIn
    by_cases hw : Region.wanted o (yielded ops a.tmps) = true
    · rw [if_pos hw] at h ⊢
      have h1 : o.wp P a w (wpList P ops Q l) Q := h.resolve_right (fun ⟨_, a', w', k⟩ => hQ a' w' k)
      refine ⟨fun _ _ => trivial, ?_⟩
      rw [Oper.semAt_eq _ _ _ (hl o (by simp))]
      unfold Oper.wp at h1
      generalize (execOp a.eval o).run P w = res at h1 ⊢
      cases res with
      | ok nx w' =>
        cases nx with
        | value v => exact ih _ _ h1
        | skip => exact ih _ _ h1
        | defer d => exact ih _ _ h1
        | enter f args =>
          refine ⟨fun h => (by cases h), CallsIn.inRound lr (callsIn_wide.2 (Calls.mono h1 ?_))⟩
          rintro e w'' he
          cases e with
          | returned v => exact ih _ _ he
          | panicked ch => exact he
          | outgrown => exact he
        | row r args =>
          refine ⟨fun h => (by cases h), fun c cs _ => ?_⟩
          obtain ⟨v, w'', h2, h3⟩ := h1 c cs
          exact ⟨v, w'', ih _ _ h2, stepsIn_wide.2 h3⟩
        | _ => exact h1.elim
      | halt hh => cases hh with
        | panic v => exact h1
        | _ => exact h1.elim
    · rw [if_neg hw] at h ⊢
      exact ⟨fun _ _ => trivial, ih _ _ h⟩
section codes
variable {C : Cx} {st : St} {sl : List (Nat × Value)} {own : List Asn} {Q : Exit → Act → World → Prop} {l : Nat}
theorem AK.regionR {id : Nat} {ops : List Oper} (hQ : ∀ a w, ¬ Q .outgrown a w) (hd : noDefer ops = true) (h : AK C st (wpList C.P ops.toArray Q ops)) : AK C st ((Code.region id ops.toArray false).wpIn (WR l) 0 C.P Q) :=
  fun a w hs => wpIn_region_lit (wpList_round l hQ ops (noDefer_of hd) a w (h a w hs))
theorem AK.seqR {x y : Code} (h : ∀ K : Act → World → Prop, (∀ st', AK C st' (y.wpIn (WR l) 0 C.P Q) → AK C st' K) → AK C st (x.wpIn (WR l) 0 C.P (Exit.then K Q))) : AK C st ((Code.seq x y).wpIn (WR l) 0 C.P Q) :=
  fun a w hs => wpIn_seq (h _ (fun _ h => h) a w hs)
theorem AK.blockR {id : Nat} {c : Code} (h : AK C st (c.wpIn (WR l) 0 C.P (Exit.inBlock id Q))) : AK C st ((Code.block id c).wpIn (WR l) 0 C.P Q) := fun a w hs => wpIn_block (h a w hs)
theorem AK.skipR (h : AK C st (Q .normal)) : AK C st (Code.skip.wpIn (WR l) 0 C.P Q) := fun a w hs => wpIn_skip (h a w hs)
theorem AK.retR (h : AK C st (Q .ret)) : AK C st (Code.ret.wpIn (WR l) 0 C.P Q) := fun a w hs => wpIn_ret (h a w hs)
theorem AK.condR {c : Operand} {x y : Code} {t : Bool} (hc : opv st c = some (.bool t)) (hx : t = true → AK C st (x.wpIn (WR l) 0 C.P Q)) (hy : t = false → AK C st (y.wpIn (WR l) 0 C.P Q)) : AK C st ((Code.cond c x y).wpIn (WR l) 0 C.P Q) :=
  fun a w hs => wpIn_cond_split (opv_eval hs hc) (fun h => hx h a w hs) (fun h => hy h a w hs)
theorem AK.condRD {c : Operand} {x y : Code} {p : Prop} [Decidable p] (hc : opv st c = some (.bool (decide p))) (hx : p → AK C st (x.wpIn (WR l) 0 C.P Q)) (hy : ¬ p → AK C st (y.wpIn (WR l) 0 C.P Q)) : AK C st ((Code.cond c x y).wpIn (WR l) 0 C.P Q) :=
  AK.condR hc (fun h => hx (of_decide_eq_true h)) (fun h => hy (of_decide_eq_false h))
theorem AK.condRNe {c : Operand} {x y : Code} {p : Prop} [Decidable p] (hc : opv st c = some (.bool (decide (¬ p)))) (hx : ¬ p → AK C st (x.wpIn (WR l) 0 C.P Q)) (hy : p → AK C st (y.wpIn (WR l) 0 C.P Q)) : AK C st ((Code.cond c x y).wpIn (WR l) 0 C.P Q) :=
  AK.condR hc (fun h => hx (of_decide_eq_true h)) (fun h => hy (Decidable.not_not.1 (of_decide_eq_false h)))
theorem AK.condR_t {c : Operand} {x y : Code} {t : Bool} (hc : opv st c = some (.bool t)) (ht : t = true) (hx : AK C st (x.wpIn (WR l) 0 C.P Q)) : AK C st ((Code.cond c x y).wpIn (WR l) 0 C.P Q) := AK.condR hc (fun _ => hx) (fun h => by rw [ht] at h; cases h)
/-- what a round ends in -/
def RQ {α : Type} (C : Cx) (l D : Nat) (r : Loop) (J : List α → Asn) (Jx : Code → List α → Asn) (pre : List α) (x : α) : Exit → Act → World → Prop
  | .normal, _, w => HW C [J (pre ++ [x]), objA D (.deferred (some [])), objA l (.loop { r with state := .busy })] w
  | .ret, _, w => HW C [Jx .ret (pre ++ [x]), objA D (.deferred (some [])), objA l (.loop { r with state := .busy })] w
  | .exit id, _, w => HW C [Jx (.exit id) (pre ++ [x]), objA D (.deferred (some [])), objA l (.loop { r with state := .busy })] w
  | _, _, _ => False
def BeginK (P : Program) (l : Nat) (body : Code) (Q : Exit → Act → World → Prop) (a : Act) (w : World) : Prop := ∃ w2, (Instr.beginRound l).run P w = .ok () w2 ∧ body.wpIn (WR l) 0 P Q a w2
theorem AK.begin_ {body : Code} {r : Loop} (i : Nat) (hi : own[i]? = some (objA l (.loop r))) (hr : r.state = .ready) (h : AK C ⟨sl, own.set i (objA l (.loop { r with state := .busy }))⟩ (body.wpIn (WR l) 0 C.P Q)) : AK C ⟨sl, own⟩ (BeginK C.P l body Q) := by
  intro a w hs
  obtain ⟨hf, Fs, hh, hal⟩ := id hs.world
  exact ⟨_, run_beginRound (hh.at_ i _ hi).1 hr, h a _ ⟨hs.size, hs.defers, hs.slot, hs.world.setObj i _ hi⟩⟩
end codes
/-! ### yield -/
def YC {α : Type} (P : Program) (l : Nat) (enc : α → Value) (T : List α → Prop) (J Jx : List α → Asn) (W0 : World) (S : Nat → Prop) : Prop :=
  ∀ (pre : List α) (x : α) (w : World) (F : Nat → Prop), T (pre ++ [x]) → FrameX S W0 w → (∀ b, F b → W0.heap.size ≤ b ∨ S b) → (J pre).holds w F →
    YieldAt Fence.wide 0 P l #[enc x] w (fun e w' => ∃ (b : Bool) (A' : Asn), e = .returned (.bool b) ∧ A' = (if b = true then J (pre ++ [x]) else Jx (pre ++ [x])) ∧ Ret F w w' [A'])
theorem YC.later {α : Type} {P : Program} {l : Nat} {enc : α → Value} {T : List α → Prop} {J Jx : List α → Asn} {W0 w1 : World} {S S1 : Nat → Prop} (h : YC P l enc T J Jx W0 S) (hf : FrameX S W0 w1) (hS : ∀ b, S1 b → W0.heap.size ≤ b ∨ S b) : YC P l enc T J Jx w1 S1 :=
  fun pre x w F hT hfr hF hJ => h pre x w F hT (hf.step hfr (fun b hb hlt => (hS b hb).resolve_left (by omega))) (fun b hb => (hF b hb).elim (fun k => .inl (Nat.le_trans hf.size k)) (fun k => hS b k)) hJ
section yields
variable {C : Cx} {sl : List (Nat × Value)} {own : List Asn} {ops : Array Oper} {Q : Exit → Act → World → Prop} {ty : TypeId} {pos : String} {aft : Array Edge} {g : Option (Nat × Bool)} {rest : List Oper}
theorem AK.regionI {st : St} {id : Nat} {l : List Oper} (h : AK C st (wpListIn Fence.wide 0 C.P l.toArray Q l)) : AK C st ((Code.region id l.toArray false).wp C.P Q) := fun a w hs => wpIn_wide.1 (wpIn_region_lit (h a w hs))
theorem AK.nilI {st : St} (h : AK C st (Q .normal)) : AK C st (wpListIn Fence.wide 0 C.P ops Q []) := h
theorem AK.valI {d : Nat} {op : Op} (v : Value) (hy : Yl C ⟨sl, own⟩ ⟨some d, op, ty, pos, aft, g⟩ v) (hg : Grd ops sl g) (hd : Nat.blt d C.N = true) (h : AK C ⟨(d, v) :: sl, own⟩ (wpListIn Fence.wide 0 C.P ops Q rest)) :
    AK C ⟨sl, own⟩ (wpListIn Fence.wide 0 C.P ops Q (⟨some d, op, ty, pos, aft, g⟩ :: rest)) := by
  intro a w hs
  refine wpListIn_step fun K hK => ?_
  rw [if_pos (wanted_of_Grd hs hg)]
  refine ⟨fun _ _ => trivial, ?_⟩
  have hrun := hy a w hs
  rw [show (Fence.wide.round) = none from rfl, Oper.semAt_none, hrun]
  exact hK _ _ (h _ _ (hs.put hs.world (d := some d) (fun i hi => by cases hi; simpa [Nat.blt_eq] using hd) v))
theorem AK.yieldI {α : Type} (i : Nat) {d l : Nat} {x0 y : Operand} {tys : Array TypeId} {enc : α → Value} {T : List α → Prop} {J Jx : List α → Asn} {pre : List α} (x : α) (hY : YC C.P l enc T J Jx C.W0 C.S) (hT : T (pre ++ [x])) (hi : own[i]? = some (J pre)) (hx0 : opv ⟨sl, own⟩ x0 = some (.func (.yield l) #[] #[])) (hx : opv ⟨sl, own⟩ y = some (enc x)) (hg : Grd ops sl g) (hd : Nat.blt d C.N = true)
    (h1 : AK C ⟨(d, .bool true) :: sl, own.set i (J (pre ++ [x]))⟩ (wpListIn Fence.wide 0 C.P ops Q rest)) (h2 : AK C ⟨(d, .bool false) :: sl, own.set i (Jx (pre ++ [x]))⟩ (wpListIn Fence.wide 0 C.P ops Q rest)) :
    AK C ⟨sl, own⟩ (wpListIn Fence.wide 0 C.P ops Q (⟨some d, .call ⟨.value x0, #[y], tys⟩, ty, pos, aft, g⟩ :: rest)) := by
  intro a w hs
  refine wpListIn_step fun K hK => ?_
  rw [if_pos (wanted_of_Grd hs hg)]
  refine ⟨fun _ _ => trivial, ?_⟩
  obtain ⟨hf, Fs, hh, hal⟩ := hs.world
  obtain ⟨fn, tmps, assign, body, hy, hR⟩ := hY pre x w (Fs i) hT hf (hal i) (hh.at_ i _ hi)
  have hrun : (execOp a.eval ⟨some d, .call ⟨.value x0, #[y], tys⟩, ty, pos, aft, g⟩).run C.P w = .ok (.round l fn tmps assign body) w := by
    simp [execOp, resolve, opv_eval hs hx0, opv_eval hs hx, Deferred.ofValue, invoke, hy]
  rw [show (Fence.wide.round) = none from rfl, Oper.semAt_none, hrun]
  refine ⟨fun h => (by cases h), hR.mono ?_⟩
  rintro e w' ⟨b, A', rfl, rfl, hx', Fs', hh', hin⟩
  have hlt := (List.getElem?_eq_some_iff.1 hi).1
  have hup := HW.update (own2 := []) hf hh hal hlt hx' hh' hin
  rw [List.append_nil] at hup
  have hp := hs.put hup (d := some d) (fun i hi => by cases hi; simpa [Nat.blt_eq] using hd) (.bool b)
  cases b with
  | true => exact hK _ _ (h1 _ _ hp)
  | false => exact hK _ _ (h2 _ _ hp)
end yields
/-! ### behind the loop: the mark among the deferred calls -/
def markD (D : Nat) : Deferred := { target := .collected D, args := #[] }
def AKd (C : Cx) (D : Nat) (st : St) (K : Act → World → Prop) : Prop := ∀ a w, Sim C st { a with defers := [] } w → a.defers = [markD D] → K a w
theorem wpList_frame {P : Program} {ops : Array Oper} {Q : Exit → Act → World → Prop} (Ds : List Deferred) : ∀ (l : List Oper) (a : Act) (w : World), (∀ a w, ¬ Q .outgrown a w) → wpList P ops Q l a w →
    wpList P ops (fun e a w => ∃ a0, Q e a0 w ∧ a = { a0 with defers := a0.defers ++ Ds }) l { a with defers := a.defers ++ Ds } w
  | [], a, w, _, h => ⟨a, h, rfl⟩
  | o :: l, a, w, hQ, h => by
    have ih := fun a w => wpList_frame (P := P) (ops := ops) (Q := Q) Ds l a w hQ
    unfold wpList at h ⊢
    have hput : ∀ v, ({ a with defers := a.defers ++ Ds } : Act).put o.dst v = { (a.put o.dst v) with defers := (a.put o.dst v).defers ++ Ds } := fun v => by cases o.dst <;> rfl
    by_cases hw : Region.wanted o (yielded ops a.tmps) = true
    · rw [if_pos hw] at h ⊢
      have h1 : o.wp P a w (wpList P ops Q l) Q := h.resolve_right (fun ⟨_, a', w', k⟩ => hQ a' w' k)
      refine .inl ?_
      unfold Oper.wp at h1 ⊢
      have hev : ({ a with defers := a.defers ++ Ds } : Act).eval = a.eval := by funext x; cases x <;> rfl
      rw [hev]
      generalize (execOp a.eval o).run P w = res at h1 ⊢
      cases res with
      | ok nx w' =>
        cases nx with
        | value v => simp only [Oper.upon] at h1 ⊢; rw [hput]; exact ih _ _ h1
        | skip => simp only [Oper.upon] at h1 ⊢; rw [hput]; exact ih _ _ h1
        | defer d =>
          simp only [Oper.upon] at h1 ⊢
          have := ih _ _ h1
          have e : ({ tmps := a.tmps, defers := d :: (a.defers ++ Ds) } : Act).put o.dst undef = { (({ tmps := a.tmps, defers := d :: a.defers } : Act).put o.dst undef) with defers := (({ tmps := a.tmps, defers := d :: a.defers } : Act).put o.dst undef).defers ++ Ds } := by cases o.dst <;> rfl
          exact e ▸ this
        | enter f args =>
          simp only [Oper.upon] at h1 ⊢
          refine Calls.mono h1 ?_
          rintro e w'' he
          cases e with
          | returned v => have h5 := ih _ _ he; rw [← hput] at h5; exact h5
          | panicked ch => exact ⟨a, he, rfl⟩
          | outgrown => obtain ⟨a', w', k⟩ := he; exact absurd k (hQ a' w')
        | row r args =>
          simp only [Oper.upon] at h1 ⊢
          intro c cs
          obtain ⟨v, w'', h2, h3⟩ := h1 c cs
          have h5 := ih _ _ h2
          rw [← hput] at h5
          exact ⟨v, w'', h5, h3⟩
        | _ => exact h1.elim
      | halt hh => cases hh with
        | panic v => exact ⟨a, h1, rfl⟩
        | _ => exact h1.elim
    · rw [if_neg hw] at h ⊢
      have := ih _ _ h
      show wpList P ops _ l (({ a with defers := a.defers ++ Ds } : Act).put o.dst undef) w
      rw [hput]; exact this
def simQ (C : Cx) (st : St) : Exit → Act → World → Prop
  | .normal, a, w => Sim C st a w
  | _, _, _ => False
section behind
variable {C : Cx} {st : St} {sl : List (Nat × Value)} {own : List Asn} {Q : Exit → Act → World → Prop} {D : Nat}
theorem AKd.region {id : Nat} {l : List Oper} (st' : St) (h : AK C st (wpList C.P l.toArray (simQ C st') l)) (h2 : AKd C D st' (Q .normal)) : AKd C D st ((Code.region id l.toArray false).wp C.P Q) := by
  intro a w hs hd
  refine wp_region_lit ?_
  have := wpList_frame [markD D] l _ w (fun _ _ h => h) (h _ w hs)
  have ea : ({ ({ a with defers := [] } : Act) with defers := ({ a with defers := [] } : Act).defers ++ [markD D] } : Act) = a := by
    cases a; simp only at hd; subst hd; rfl
  rw [ea] at this
  have mono : ∀ (l' : List Oper) (a : Act) (w : World), wpList C.P l.toArray (fun e a w => ∃ a0, simQ C st' e a0 w ∧ a = { a0 with defers := a0.defers ++ [markD D] }) l' a w → wpList C.P l.toArray Q l' a w := by
    intro l'
    induction l' with
    | nil =>
      rintro a w ⟨a0, hs0, rfl⟩
      have hd0 := hs0.defers
      refine h2 _ w ?_ (by show a0.defers ++ _ = _; rw [hd0]; rfl)
      have : ({ ({ a0 with defers := a0.defers ++ [markD D] } : Act) with defers := [] } : Act) = a0 := by cases a0; simp only at hd0; subst hd0; rfl
      rw [this]; exact hs0
    | cons o l' ih =>
      intro a w h
      unfold wpList at h ⊢
      by_cases hw : Region.wanted o (yielded l.toArray a.tmps) = true
      · rw [if_pos hw] at h ⊢
        have h1 := h.resolve_right (fun ⟨_, a', w', k⟩ => by obtain ⟨a0, k, _⟩ := k; exact k)
        refine .inl ?_
        unfold Oper.wp at h1 ⊢
        generalize (execOp a.eval o).run C.P w = res at h1 ⊢
        cases res with
        | ok nx w' =>
          cases nx with
          | value v => exact ih _ _ h1
          | skip => exact ih _ _ h1
          | defer d => exact ih _ _ h1
          | enter f args =>
            refine Calls.mono h1 ?_
            rintro e w'' he
            cases e with
            | returned v => exact ih _ _ he
            | panicked ch => obtain ⟨a0, k, _⟩ := he; exact k.elim
            | outgrown => obtain ⟨a', w', a0, k, _⟩ := he; exact k.elim
          | row r args =>
            intro c cs
            obtain ⟨v, w'', h2, h3⟩ := h1 c cs
            exact ⟨v, w'', ih _ _ h2, h3⟩
          | _ => exact h1.elim
        | halt hh => cases hh with
          | panic v => obtain ⟨a0, k, _⟩ := h1; exact k.elim
          | _ => exact h1.elim
      · rw [if_neg hw] at h ⊢
        exact ih _ _ h
  exact mono l a w this
theorem AKd.seq {x y : Code} (h : AKd C D st (x.wp C.P (Exit.then (y.wp C.P Q) Q))) : AKd C D st ((Code.seq x y).wp C.P Q) := fun a w hs hd => wp_seq (h a w hs hd)
theorem AKd.retC (h : AKd C D st (Q .ret)) : AKd C D st (Code.ret.wp C.P Q) := fun a w hs hd => wp_ret (h a w hs hd)
def bodyPostW (P : Program) (fn : Func) (R : Ending → World → Prop) : Exit → Act → World → Prop := bodyPostM Fence.wide 0 P fn R
theorem AKd.fin {fn : Func} {R : Ending → World → Prop} (i : Nat) (hi : own[i]? = some (objA D (.deferred (some [])))) (h : AK C ⟨sl, own.set i (objA D (.deferred none))⟩ (bodyPost C.P fn R .ret)) : AKd C D ⟨sl, own⟩ (bodyPostW C.P fn R .ret) := by
  intro a w hs hd
  obtain ⟨hf, Fs, hh, hal⟩ := id hs.world
  obtain ⟨_, v, hr, hR⟩ := h _ _ ⟨hs.size, rfl, hs.slot, hs.world.setObj i (.deferred none) hi⟩
  show LeavesInM Fence.wide 0 C.P fn a.tmps R a.defers .returning w
  rw [hd]
  exact ⟨by simp, .inl ⟨D, _, rfl, run_takeDeferred (hh.at_ i _ hi).1, v, hr, hR⟩⟩
theorem AK.toW {fn : Func} {R : Ending → World → Prop} (h : AK C st (bodyPost C.P fn R .ret)) : AK C st (bodyPostW C.P fn R .ret) := by
  intro a w hs
  obtain ⟨hd, v, hr, hR⟩ := h a w hs
  show LeavesInM Fence.wide 0 C.P fn a.tmps R a.defers .returning w
  rw [hd]
  exact ⟨v, hr, hR⟩
theorem AK.seqW {x y : Code} (h : ∀ K : Act → World → Prop, (∀ a w, y.wp C.P Q a w → K a w) → (∀ st', AK C st' (y.wp C.P Q) → AK C st' K) → AK C st (x.wp C.P (Exit.then K Q))) : AK C st ((Code.seq x y).wp C.P Q) := fun a w hs => wp_seq (h _ (fun _ _ h => h) (fun _ h => h) a w hs)
end behind
theorem specW_of {P : Program} {f : FuncId} {fn : Func} {c : Code} {vs : List Value} {w : World} {φ : Value → List Asn → Prop} (hf : P.funcs[f]? = some fn) (hb : fn.body = some c) (hN : vs.length ≤ fn.ntmps)
    (h : AK ⟨P, fn.ntmps, w, fun _ => False⟩ ⟨argSl 0 vs, []⟩ (c.wp P (bodyPostW P fn fun e w' => ∃ v own', φ v own' ∧ e = .returned v ∧ Ret (fun _ => False) w w' own'))) : CallS P f vs w φ := by
  refine (callsIn_wide (n := 0)).1 (callsIn_of_wp_marks hf hb trivial (wpIn_wide.2 (h _ _ ⟨by simp; omega, rfl, ?_, ⟨FrameX.refl _ _, _, HeapAt.nil w, fun _ _ h => h.elim⟩⟩)))
  intro i v hv
  obtain ⟨_, h2⟩ := get_argSl vs 0 i v hv
  simp only [Nat.sub_zero] at h2
  have hlt := (List.getElem?_eq_some_iff.1 h2).1
  simp only [Array.getD_eq_getD_getElem?]
  rw [Array.getElem?_append_left (by simpa using hlt)]
  simp [h2]
theorem AKd.thenK {C : Cx} {st : St} {D : Nat} {y : Code} {Q : Exit → Act → World → Prop} {K : Act → World → Prop} (hK : ∀ a w, y.wp C.P Q a w → K a w) (h : AKd C D st (y.wp C.P Q)) : AKd C D st K := fun a w hs hd => hK a w (h a w hs hd)
theorem AKd.exE {C : Cx} {sl : List (Nat × Value)} {own : List Asn} {D : Nat} {X : Type} {p : X → Prop} {A : X → Asn} {K : Act → World → Prop} (i : Nat) (hi : own[i]? = some (exA p A)) (h : ∀ x, p x → AKd C D ⟨sl, own.set i (A x)⟩ K) : AKd C D ⟨sl, own⟩ K := by
  intro a w hs hd
  obtain ⟨x, hp, hx⟩ := HW.exE i hi hs.world
  exact h x hp a w ⟨hs.size, hs.defers, hs.slot, hx⟩ hd
theorem AK.exE {C : Cx} {sl : List (Nat × Value)} {own : List Asn} {X : Type} {p : X → Prop} {A : X → Asn} {K : Act → World → Prop} (i : Nat) (hi : own[i]? = some (exA p A)) (h : ∀ x, p x → AK C ⟨sl, own.set i (A x)⟩ K) : AK C ⟨sl, own⟩ K := by
  intro a w hs
  obtain ⟨x, hp, hx⟩ := HW.exE i hi hs.world
  exact h x hp a w ⟨hs.size, hs.defers, hs.slot, hx⟩
theorem AKd.own' {C : Cx} {sl : List (Nat × Value)} {own : List Asn} {D : Nat} {K : Act → World → Prop} (L : List Asn) (hL : ∀ w, HW C own w → HW C L w) (h : AKd C D ⟨sl, L⟩ K) : AKd C D ⟨sl, own⟩ K := fun a w hs hd => h a w ⟨hs.size, hs.defers, hs.slot, hL w hs.world⟩ hd
def botA : Asn := exA (fun _ : Unit => False) (fun _ => empA)
theorem AKd.bot {C : Cx} {sl : List (Nat × Value)} {own : List Asn} {D : Nat} {K : Act → World → Prop} (i : Nat) (hi : own[i]? = some botA) : AKd C D ⟨sl, own⟩ K := AKd.exE i hi (fun _ h => h.elim)
end Go.Sx

set_option linter.unusedVariables false
set_option linter.unusedSimpArgs false
namespace Go.Sx
open Go.RowKit
theorem get_zip1 (tmps : Array Value) (p : Tmp) (v : Value) : ((#[p]).zip #[v]).foldl (fun t (x : Tmp × Value) => t.setIfInBounds x.1 x.2) tmps = tmps.setIfInBounds p v := by simp [Array.zip]
theorem AK.rangeFunc {C : Cx} {sl : List (Nat × Value)} {own : List Asn} {Q : Exit → Act → World → Prop} {α : Type} {g : Operand} {p : Tmp} {assign body : Code} {gf : FuncId} {lb : List Value} {enc : α → Value} (J : List α → Asn) (Jx : Code → List α → Asn) (T S Sp : List α → Prop) (R : Asn)
    (hg : opv ⟨sl, own⟩ g = some (.func (.func gf) #[] lb.toArray)) (hok : CallOk C.P gf) (hp : Nat.blt p C.N = true)
    (h0 : ∀ w, HW C own w → HW C [J [], R] w)
    (hseq : ∀ (w : World) (Fs : Nat → Nat → Prop) (l : Nat) (J' Jx' : List α → Asn), HW C [J' [], R] w → HeapAt [J' [], R] Fs w → FrameX C.S C.W0 w → (∀ k b, Fs k b → C.W0.heap.size ≤ b ∨ C.S b) → YC C.P l enc T J' Jx' w (Fs 0) →
      CallM C.P gf (.func (.yield l) #[] #[] :: lb) w (Fs 0) (fun r A o => o = [] ∧ ((∃ xs, S xs ∧ A = J' xs) ∨ (∃ q, Sp q ∧ A = Jx' q))))
    (hround : ∀ (l D : Nat) (r : Loop) (pre : List α) (x : α) (w : World) (F : Nat → Prop), r.state = .ready → T (pre ++ [x]) → FrameX C.S C.W0 w → (∀ b, F b → C.W0.heap.size ≤ b ∨ C.S b) →
      AK ⟨C.P, C.N, w, F⟩ ⟨(p, enc x) :: sl, [J pre, objA D (.deferred (some [])), objA l (.loop r)]⟩ (assign.wpIn (WR l) 0 C.P (Exit.then (BeginK C.P l body (RQ ⟨C.P, C.N, w, F⟩ l D r J Jx pre x)) (fun _ _ _ => False))))
    (hdone : ∀ (D : Nat) (xs : List α), S xs → AKd C D ⟨sl, [J xs, R, objA D (.deferred (some []))]⟩ (Q .normal))
    (hstop : ∀ (D : Nat) (c : Code) (q : List α), Sp q → AKd C D ⟨sl, [Jx c q, R, objA D (.deferred (some []))]⟩ (c.wp C.P Q)) :
    AK C ⟨sl, own⟩ ((Code.rangeFunc g #[p] assign body).wp C.P Q) := by
  intro a w hs
  have hw0 := h0 w hs.world
  refine (wpIn_wide (n := 0)).1 (wpIn_rangeFunc ?_)
  intro fn hfn
  obtain ⟨r0, hr0⟩ : ∃ r0 : Loop, r0 = { state := .ready, pending := none, fn, tmps := a.tmps, params := #[p], assign, body, defers := w.heap.size } := ⟨_, rfl⟩
  obtain ⟨W1, hW1⟩ : ∃ W1, (w.alloc (.deferred (some []))).alloc (.loop r0) = W1 := ⟨_, rfl⟩
  obtain ⟨D, hD⟩ : ∃ D, D = w.heap.size := ⟨_, rfl⟩
  have f1 : FrameX (fun _ => False) w (w.alloc (.deferred (some []))) := ⟨rfl, rfl, rfl, by show w.heap.size ≤ (w.heap.push _).size; simp, fun k hk _ => by show (w.heap.push _)[k]? = _; simp [Array.getElem?_push, Nat.ne_of_lt hk]⟩
  have hw1 := hw0.push f1 (HeapAt.one (show (objA w.heap.size (.deferred (some []))).holds (w.alloc (.deferred (some []))) (fun c => c = w.heap.size) from ⟨World.alloc_heap_new w _, fun _ => Iff.rfl⟩)) (fun j b hb => by rw [hb.2]; exact Nat.le_refl _)
  have f2 : FrameX (fun _ => False) (w.alloc (.deferred (some []))) W1 := by
    rw [← hW1]
    exact ⟨rfl, rfl, rfl, by show (w.alloc _).heap.size ≤ ((w.alloc _).heap.push _).size; simp, fun k hk _ => by show ((w.alloc _).heap.push _)[k]? = _; rw [Array.getElem?_push, if_neg (Nat.ne_of_lt hk)]⟩
  have hnew : (w.alloc (.deferred (some []))).heap.size = w.heap.size + 1 := by show (w.heap.push _).size = _; simp
  have hw2 := hw1.push f2 (HeapAt.one (show (objA (w.heap.size + 1) (.loop r0)).holds W1 (fun c => c = w.heap.size + 1) from ⟨by rw [← hW1, ← hnew]; exact World.alloc_heap_new _ _, fun _ => Iff.rfl⟩)) (fun j b hb => by rw [hb.2, hnew]; exact Nat.le_refl _)
  rw [← hD] at hw2
  obtain ⟨l, hl⟩ : ∃ l, l = D + 1 := ⟨_, rfl⟩
  rw [← hl] at hw2
  obtain ⟨J', hJ'⟩ : ∃ J' : List α → Asn, J' = fun pre => bigA [J pre, objA D (.deferred (some [])), objA l (.loop r0)] := ⟨_, rfl⟩
  obtain ⟨Jx', hJx'⟩ : ∃ Jx' : List α → Asn, Jx' = fun q => exA (fun _ : Code => True) (fun c => bigA [Jx c q, objA D (.deferred (some [])), objA l (.loop { r0 with state := .done, pending := some c })]) := ⟨_, rfl⟩
  have hw3 : HW C [J' [], R] W1 := by
    rw [hJ']
    exact HW.unflat (l := [_, _, _]) (own := [_]) (hw2.pick [0, 2, 3, 1] (by decide) rfl rfl)
  obtain ⟨hf1, Fs1, hh1, hal1⟩ := id hw3
  have hYC : YC C.P l enc T J' Jx' W1 (Fs1 0) := by
    intro pre x W F hT hfr hF hJ
    rw [hJ'] at hJ
    obtain ⟨Gs, gh, gF⟩ := hJ
    have hl2 := (gh.at_ 2 _ rfl).1
    have hy := run_yield (P := C.P) (args := #[enc x]) hl2 (by rw [hr0]; rfl)
    rw [hr0] at hy
    refine ⟨fn, _, assign, body, hy, roundIn_of_wpIn trivial ?_⟩
    have hsim : Sim ⟨C.P, C.N, W, F⟩ ⟨(p, enc x) :: sl, [J pre, objA D (.deferred (some [])), objA l (.loop r0)]⟩ { tmps := ((#[p]).zip #[enc x]).foldl (fun t (y : Tmp × Value) => t.setIfInBounds y.1 y.2) a.tmps, defers := [] } W := by
      rw [get_zip1]
      have hput := hs.put hs.world (d := some p) (fun i hi => by cases hi; simpa [Nat.blt_eq] using hp) (enc x)
      refine ⟨hput.size, rfl, hput.slot, ⟨FrameX.refl _ _, Gs, gh, fun i b hb => .inr ((gF b).2 ⟨i, hb⟩)⟩⟩
    have hrd := hround l D r0 pre x W F (by rw [hr0]) hT (hf1.step hfr (fun b hb hlt => (hal1 0 b hb).resolve_left (by omega))) (fun b hb => (hF b hb).elim (fun k => .inl (Nat.le_trans hf1.size k)) (fun k => hal1 0 b k)) _ _ hsim
    refine wpIn_mono hrd ?_
    rintro e a1 w1 he
    cases e with
    | normal =>
      obtain ⟨w2, hb2, hbody⟩ := he
      refine ⟨w2, hb2, wpIn_mono hbody ?_⟩
      have key : ∀ (jump : Option Code) (A : Asn) (w3 : World), HW ⟨C.P, C.N, W, F⟩ [A, objA D (.deferred (some [])), objA l (.loop { r0 with state := .busy })] w3 →
          (Instr.endRound l jump).run C.P w3 = .ok (.bool jump.isNone) (w3.putObj l (.loop { r0 with state := if jump.isNone then .ready else .done, pending := jump })) ∧
          Ret F W (w3.putObj l (.loop { r0 with state := if jump.isNone then .ready else .done, pending := jump })) [bigA [A, objA D (.deferred (some [])), objA l (.loop { r0 with state := if jump.isNone then .ready else .done, pending := jump })]] := by
        intro jump A w3 h3
        obtain ⟨_, Hs, hhs, _⟩ := id h3
        have hre := run_endRound (P := C.P) jump (hhs.at_ 2 _ rfl).1
        refine ⟨hre, ?_⟩
        have h4 := h3.setObj 2 (.loop { r0 with state := if jump.isNone then .ready else .done, pending := jump }) rfl
        exact Ret.of (HW.unflat (l := [_, _, _]) (own := []) h4)
      rintro e2 a3 w3 h3
      cases e2 with
      | normal =>
        obtain ⟨k1, k2⟩ := key none _ w3 h3
        refine ⟨_, _, k1, true, _, rfl, rfl, ?_⟩
        rw [if_pos rfl, hJ']
        have e : ({ r0 with state := if (none : Option Code).isNone = true then .ready else .done, pending := none } : Loop) = r0 := by rw [hr0]; rfl
        rw [e] at k2 ⊢
        exact k2
      | ret =>
        obtain ⟨k1, k2⟩ := key (some .ret) _ w3 h3
        refine ⟨_, _, k1, false, _, rfl, rfl, ?_⟩
        rw [if_neg (by simp), hJx']
        obtain ⟨q1, Ks, q2, q3⟩ := k2
        exact ⟨q1, Ks, ⟨(fun i B hi => by
          have := q2.at_ i
          cases i with
          | zero => cases hi; exact ⟨.ret, trivial, this _ rfl⟩
          | succ i => cases hi), q2.out, q2.apart⟩, q3⟩
      | exit id =>
        obtain ⟨k1, k2⟩ := key (some (.exit id)) _ w3 h3
        refine ⟨_, _, k1, false, _, rfl, rfl, ?_⟩
        rw [if_neg (by simp), hJx']
        obtain ⟨q1, Ks, q2, q3⟩ := k2
        exact ⟨q1, Ks, ⟨(fun i B hi => by
          have := q2.at_ i
          cases i with
          | zero => cases hi; exact ⟨.exit id, trivial, this _ rfl⟩
          | succ i => cases hi), q2.out, q2.apart⟩, q3⟩
      | goto t => exact h3.elim
      | panic ch => exact h3.elim
      | outgrown => exact h3.elim
    | ret => exact he.elim
    | exit id => exact he.elim
    | goto t => exact he.elim
    | panic ch => exact he.elim
    | outgrown => exact he.elim
  have hcall := hseq W1 Fs1 l J' Jx' hw3 hh1 hf1 hal1 hYC
  unfold CallM at hcall
  obtain ⟨fg, hfg1, hfg2, hfg3⟩ := hok.fn
  have hfg2' : ¬ fg.name = "runtime.NumGoroutine" := by simpa using hfg2
  have hfg3' : ¬ fg.body = none := by intro e; simp [e] at hfg3
  have hge := opv_eval hs hg
  refine ⟨l, [markD D], W1, { target := .fn (.func gf) lb.toArray, args := #[.func (.yield l) #[] #[]] }, W1, gf, (.func (.yield l) #[] #[] :: lb).toArray, W1, ?_, ?_, fun _ _ => trivial, ?_, fun h => (by cases h), callsIn_wide.2 (Calls.mono hcall ?_)⟩
  · have := run_enterLoop_outer (P := C.P) (w := w) fn a.tmps #[p] assign body
    rw [show (Fence.wide.round) = none from rfl, this, hl, hD, ← hW1, hr0]; rfl
  · simp only [resolve, hge]
    simp [Deferred.ofValue, Act.eval]
  · simp [invoke, callFunc, hfg1, hfg2', hfg3']
  · rintro e W2 ⟨v, A', own', ⟨rfl, hA⟩, rfl, hx', Fs', hh', hin⟩
    have hup := HW.update (own2 := []) hf1 hh1 hal1 (show 0 < [J' [], R].length by simp) hx' hh' hin
    have hsim : ∀ (own3 : List Asn) (w' : World), HW C own3 w' → Sim C ⟨sl, own3⟩ { ({ a with defers := [markD D] ++ a.defers } : Act) with defers := [] } w' := fun own3 w' h3 => ⟨hs.size, rfl, hs.slot, h3⟩
    have hd1 : ({ a with defers := [markD D] ++ a.defers } : Act).defers = [markD D] := by show [markD D] ++ a.defers = _; rw [hs.defers]; rfl
    rcases hA with ⟨xs, hS, rfl⟩ | ⟨q, hS, rfl⟩
    · rw [hJ'] at hup
      have hfl : HW C ([J xs, objA D (.deferred (some [])), objA l (.loop r0)] ++ [R]) W2 := HW.flat (l := [_, _, _]) (own := [R]) hup
      obtain ⟨_, Hs, hhs, _⟩ := id hfl
      have hpn : r0.pending = none := by rw [hr0]
      have h6 := run_endLoop (P := C.P) (hhs.at_ 2 _ rfl).1 (by rw [hr0]; simp)
      have h7 : (Instr.endLoop l).run C.P W2 = .ok none (W2.putObj l (.loop { r0 with state := .exhausted })) := h6.trans (by rw [hpn])
      refine ⟨none, _, h7, ?_⟩
      have h5 := hfl.setObj 2 (.loop { r0 with state := .exhausted }) rfl
      exact hdone D xs hS _ _ (hsim _ _ (h5.pick [0, 3, 1] (by decide) rfl rfl)) hd1
    · rw [hJx'] at hup
      obtain ⟨c, _, hup⟩ := HW.exE 0 rfl hup
      have hfl : HW C ([Jx c q, objA D (.deferred (some [])), objA l (.loop { r0 with state := .done, pending := some c })] ++ [R]) W2 := HW.flat (l := [_, _, _]) (own := [R]) hup
      obtain ⟨_, Hs, hhs, _⟩ := id hfl
      refine ⟨some c, _, by have := run_endLoop (P := C.P) (hhs.at_ 2 _ rfl).1 (by simp); exact this, ?_⟩
      have h5 := hfl.setObj 2 (.loop { ({ r0 with state := .done, pending := some c } : Loop) with state := .exhausted }) rfl
      exact wpIn_wide.2 (hstop D c q hS _ _ (hsim _ _ (h5.pick [0, 3, 1] (by decide) rfl rfl)) hd1)
end Go.Sx

set_option linter.unusedVariables false
set_option linter.unusedSimpArgs false
namespace Go.Sx
open Go.RowKit
/-! ### critical pairs -/
abbrev Crit := Wrd × Wrd × Wrd
def ccs (c : Crit) : List Value := [sv c.1, sv c.2.1, sv c.2.2]
def cv (c : Crit) : Value := .agg #[sv c.1, sv c.2.1, sv c.2.2]
def up (P : Nat → Bool) (f : Nat → Crit) : Nat → List Crit
  | 0 => []
  | n + 1 => up P f n ++ if P n = true then [f n] else []
theorem up_yes {P : Nat → Bool} {f : Nat → Crit} {n : Nat} (h : P n = true) : up P f (n + 1) = up P f n ++ [f n] := by simp [up, h]
theorem up_no {P : Nat → Bool} {f : Nat → Crit} {n : Nat} (h : P n = false) : up P f (n + 1) = up P f n := by simp [up, h]
theorem up_skip {P : Nat → Bool} {f : Nat → Crit} {o : Nat} : ∀ (k : Nat), (∀ p, o ≤ p → p < o + k → P p = false) → up P f (o + k) = up P f o
  | 0, _ => rfl
  | k + 1, h => by
    show up P f (o + k + 1) = _
    rw [up_no (h (o + k) (by omega) (by omega)), up_skip k (fun p h1 h2 => h p h1 (by omega))]
theorem up_pre {P : Nat → Bool} {f : Nat → Crit} (n : Nat) : ∀ k, up P f n <+: up P f (n + k)
  | 0 => List.prefix_refl _
  | k + 1 => (up_pre n k).trans (List.prefix_append _ _)
def ovP (a b : Rul) (k : Nat) : Bool := decide (1 ≤ k) && decide (b.1.take k = a.1.drop (a.1.length - k))
def ovk (a b : Rul) (k : Nat) : Crit := (a.1 ++ b.1.drop k, a.2 ++ b.1.drop k, a.1.take (a.1.length - k) ++ b.2)
def ovl (a b : Rul) : List Crit := up (ovP a b) (ovk a b) (min a.1.length b.1.length)
def cnP (a b : Rul) (p : Nat) : Bool := b.1.isPrefixOf (a.1.drop p)
def cnk (a b : Rul) (p : Nat) : Crit := (a.1, a.2, a.1.take p ++ b.2 ++ a.1.drop (p + b.1.length))
def cnl (a b : Rul) : List Crit := up (cnP a b) (cnk a b) (a.1.length + 1)
theorem ovP_zero (a b : Rul) : ovP a b 0 = false := by simp [ovP]
theorem ovl_end {a b : Rul} {k : Nat} (h1 : 1 ≤ k) (h2 : k ≤ min a.1.length b.1.length ∨ k = 1) (h3 : ¬ k < min a.1.length b.1.length) : up (ovP a b) (ovk a b) k = ovl a b := by
  unfold ovl
  rcases h2 with h2 | h2
  · rw [show k = min a.1.length b.1.length by omega]
  · rcases (show min a.1.length b.1.length = 0 ∨ min a.1.length b.1.length = 1 by omega) with e | e
    · rw [e, h2]; exact up_no (ovP_zero a b)
    · rw [e, h2]
theorem ov_pre {a b : Rul} {k : Nat} (hk : k < min a.1.length b.1.length) (hP : ovP a b k = true) : up (ovP a b) (ovk a b) k ++ [ovk a b k] <+: ovl a b := by
  rw [← up_yes hP]
  have := up_pre (P := ovP a b) (f := ovk a b) (k + 1) (min a.1.length b.1.length - (k + 1))
  rw [show k + 1 + (min a.1.length b.1.length - (k + 1)) = min a.1.length b.1.length by omega] at this; exact this
theorem ovP_diff {a b : Rul} {k : Nat} (h1 : 1 ≤ k) (hk : k < min a.1.length b.1.length) (h : ¬ a.1.getD (a.1.length - k) 0 = b.1.getD 0 0) : ovP a b k = false := by
  unfold ovP
  rw [Bool.and_eq_false_iff]
  refine .inr (decide_eq_false fun e => h ?_)
  have h2 := congrArg (fun l => l.getD 0 0) e
  simp only [List.getD_eq_getElem?_getD, List.getElem?_take, List.getElem?_drop, Nat.add_zero, show (0 < k) by omega, if_true] at h2
  rw [List.getD_eq_getElem?_getD, List.getD_eq_getElem?_getD]; exact h2.symm
theorem ovP_has {a b : Rul} {k : Nat} (h1 : 1 ≤ k) (hk : k < min a.1.length b.1.length) : ovP a b k = Lib.hasPrefix b.1 (a.1.drop (a.1.length - k)) := by
  have hl : (a.1.drop (a.1.length - k)).length = k := by rw [List.length_drop]; omega
  rw [Bool.eq_iff_iff]
  unfold ovP Lib.hasPrefix
  rw [decide_eq_true h1, Bool.true_and, decide_eq_true_eq, List.isPrefixOf_iff_prefix, List.prefix_iff_eq_take, hl]
  exact ⟨fun h => h.symm, fun h => h.symm⟩
theorem cnl_end {a b : Rul} {o : Nat} (ho : o ≤ a.1.length + 1) (h : ∀ p, o ≤ p → p ≤ a.1.length → cnP a b p = false) : up (cnP a b) (cnk a b) o = cnl a b := by
  unfold cnl
  have := up_skip (P := cnP a b) (f := cnk a b) (o := o) (a.1.length + 1 - o) (fun p h1 h2 => h p h1 (by omega))
  rw [show o + (a.1.length + 1 - o) = a.1.length + 1 by omega] at this; exact this.symm
theorem cn_pre {a b : Rul} {o : Nat} (ho : o ≤ a.1.length) (hP : cnP a b o = true) : up (cnP a b) (cnk a b) o ++ [cnk a b o] <+: cnl a b := by
  rw [← up_yes hP]
  have := up_pre (P := cnP a b) (f := cnk a b) (o + 1) (a.1.length - o)
  rw [show o + 1 + (a.1.length - o) = a.1.length + 1 by omega] at this; exact this
/-- where the next one lies -/
theorem cn_index {a b : Rul} {o : Nat} (ho : o ≤ a.1.length) (hb : b.1 ≠ []) : (Lib.index (a.1.drop o) b.1 < 0 ∧ up (cnP a b) (cnk a b) o = cnl a b) ∨
    (∃ m : Nat, Lib.index (a.1.drop o) b.1 = (m : Int) ∧ o + m + b.1.length ≤ a.1.length ∧ cnP a b (o + m) = true ∧ up (cnP a b) (cnk a b) (o + m) = up (cnP a b) (cnk a b) o) := by
  rcases Lib.index_spec (a.1.drop o) b.1 with ⟨h, hn⟩ | ⟨m, h, hm, hoc, hno⟩
  · refine .inl ⟨by omega, cnl_end (by omega) fun p h1 h2 => ?_⟩
    have := hn (p - o) (by rw [List.length_drop]; omega)
    unfold Lib.occAt at this
    rw [List.drop_drop, show o + (p - o) = p by omega] at this
    exact this
  · have hoc' : cnP a b (o + m) = true := by
      unfold Lib.occAt at hoc
      rw [List.drop_drop] at hoc; exact hoc
    have hl := (List.isPrefixOf_iff_prefix.1 hoc').length_le
    rw [List.length_drop] at hl
    have hbp := List.length_pos_iff.2 hb
    refine .inr ⟨m, h, by omega, hoc', up_skip m fun p h1 h2 => ?_⟩
    have := hno (p - o) (by omega)
    unfold Lib.occAt at this
    rw [List.drop_drop, show o + (p - o) = p by omega] at this
    exact this
/-- all of them, in order -/
def crJ (rs : List Rul) (i : Nat) : Nat → List Crit
  | 0 => []
  | j + 1 => crJ rs i j ++ (ovl (rs.getD i ([], [])) (rs.getD j ([], [])) ++ if i = j then [] else cnl (rs.getD i ([], [])) (rs.getD j ([], [])))
def crI (rs : List Rul) : Nat → List Crit
  | 0 => []
  | i + 1 => crI rs i ++ crJ rs i rs.length
def crA (rs : List Rul) : List Crit := crI rs rs.length
theorem crJ_pre (rs : List Rul) (i j : Nat) : ∀ k, crJ rs i j <+: crJ rs i (j + k)
  | 0 => List.prefix_refl _
  | k + 1 => (crJ_pre rs i j k).trans (List.prefix_append _ _)
theorem crI_pre (rs : List Rul) (i : Nat) : ∀ k, crI rs i <+: crI rs (i + k)
  | 0 => List.prefix_refl _
  | k + 1 => (crI_pre rs i k).trans (List.prefix_append _ _)
theorem cr_pre {rs : List Rul} {i j : Nat} (hi : i < rs.length) (hj : j < rs.length) : crI rs i ++ crJ rs i (j + 1) <+: crA rs := by
  have h1 := crJ_pre rs i (j + 1) (rs.length - (j + 1))
  rw [show j + 1 + (rs.length - (j + 1)) = rs.length by omega] at h1
  have h2 := crI_pre rs (i + 1) (rs.length - (i + 1))
  rw [show i + 1 + (rs.length - (i + 1)) = rs.length by omega] at h2
  exact ((List.prefix_append_right_inj _).2 h1).trans h2
theorem cr_pre1 {rs : List Rul} {i j : Nat} (hi : i < rs.length) (hj : j < rs.length) {q : List Crit} (hq : q <+: ovl (rs.getD i ([], [])) (rs.getD j ([], []))) : (crI rs i ++ crJ rs i j) ++ q <+: crA rs := by
  refine List.IsPrefix.trans ?_ (cr_pre hi hj)
  rw [List.append_assoc, List.prefix_append_right_inj]
  show crJ rs i j ++ q <+: crJ rs i j ++ _
  rw [List.prefix_append_right_inj]
  exact hq.trans (List.prefix_append _ _)
theorem cr_pre2 {rs : List Rul} {i j : Nat} (hi : i < rs.length) (hj : j < rs.length) (hij : i ≠ j) {q : List Crit} (hq : q <+: cnl (rs.getD i ([], [])) (rs.getD j ([], []))) : (crI rs i ++ crJ rs i j) ++ ovl (rs.getD i ([], [])) (rs.getD j ([], [])) ++ q <+: crA rs := by
  refine List.IsPrefix.trans ?_ (cr_pre hi hj)
  rw [List.append_assoc, List.append_assoc, List.prefix_append_right_inj]
  show crJ rs i j ++ _ <+: crJ rs i j ++ _
  rw [List.prefix_append_right_inj, if_neg hij, List.prefix_append_right_inj]
  exact hq
theorem crJ_eq {rs : List Rul} {i : Nat} : crJ rs i (i + 1) = crJ rs i i ++ ovl (rs.getD i ([], [])) (rs.getD i ([], [])) := by
  show crJ rs i i ++ _ = _
  rw [if_pos rfl, List.append_nil]
theorem crJ_ne {rs : List Rul} {i j : Nat} (h : i ≠ j) : crJ rs i (j + 1) = crJ rs i j ++ ovl (rs.getD i ([], [])) (rs.getD j ([], [])) ++ cnl (rs.getD i ([], [])) (rs.getD j ([], [])) := by
  show crJ rs i j ++ _ = _
  rw [if_neg h, List.append_assoc]
def crc (l : List Crit) : List Value := l.flatMap ccs
theorem crc_length (l : List Crit) : (crc l).length = l.length * 3 := by
  induction l with
  | nil => rfl
  | cons p ps ih => simp only [crc, ccs, List.flatMap_cons, List.length_append, List.length_cons, List.length_nil] at ih ⊢; omega
theorem crc_append (a b : List Crit) : crc (a ++ b) = crc a ++ crc b := by simp [crc]
theorem crc_at (ps : List Crit) (j : Nat) (h : j < ps.length) : ((crc ps).drop (j * 3)).take 3 = ccs (ps.getD j ([], [], [])) := by
  have h1 : ps = ps.take j ++ ps.getD j ([], [], []) :: ps.drop (j + 1) := by
    rw [List.getD_eq_getElem?_getD, List.getElem?_eq_getElem h, Option.getD_some, List.getElem_cons_drop, List.take_append_drop]
  have h2 : (crc (ps.take j)).length = j * 3 := by rw [crc_length, List.length_take]; omega
  conv => lhs; rw [h1]
  rw [crc_append, ← h2, List.drop_left]
  simp [crc, ccs]
theorem ccs_one (c : Crit) : one' (ccs c) := by
  intro u hu
  simp only [ccs, List.mem_cons, List.not_mem_nil, or_false] at hu
  rcases hu with rfl | rfl | rfl <;> rfl
end Go.Sx

set_option linter.unusedVariables false
set_option linter.unusedSimpArgs false
namespace Go.Sx
open Go.RowKit
theorem MxA.off {C : Cx} {own : List Asn} {w : World} (h : MxA C.W0) (hS : ¬ C.S 0) (hw : HW C own w) : MxA w := by
  obtain ⟨m, hm⟩ := h
  have hf := hw.frame
  have hlt : 0 < C.W0.heap.size := by
    unfold World.cell? at hm
    rcases Nat.lt_or_ge 0 C.W0.heap.size with k | k
    · exact k
    · rw [Array.getElem?_eq_none (by simpa using k)] at hm; simp at hm
  exact ⟨m, by rw [World.cell?_of_block (hf.block 0 hlt hS)]; exact hm⟩
theorem MxA.off2 {C : Cx} {w : World} (h : MxA C.W0) (hS : ¬ C.S 0) (hf : FrameX C.S C.W0 w) : MxA w := by
  obtain ⟨m, hm⟩ := h
  have hlt : 0 < C.W0.heap.size := by
    unfold World.cell? at hm
    rcases Nat.lt_or_ge 0 C.W0.heap.size with k | k
    · exact k
    · rw [Array.getElem?_eq_none (by simpa using k)] at hm; simp at hm
  exact ⟨m, by rw [World.cell?_of_block (hf.block 0 hlt hS)]; exact hm⟩
theorem MxA.lt {w : World} (h : MxA w) : 0 < w.heap.size := by
  obtain ⟨m, hm⟩ := h
  unfold World.cell? at hm
  rcases Nat.lt_or_ge 0 w.heap.size with k | k
  · exact k
  · rw [Array.getElem?_eq_none (by simpa using k)] at hm; simp at hm
theorem not_F0 {C : Cx} {Fs : Nat → Nat → Prop} {i : Nat} (h : MxA C.W0) (hS : ¬ C.S 0) (hal : ∀ k b, Fs k b → C.W0.heap.size ≤ b ∨ C.S b) : ¬ Fs i 0 :=
  fun h3 => (hal i 0 h3).elim (fun k => by have := h.lt; omega) hS
end Go.Sx

set_option linter.unusedVariables false
set_option linter.unusedSimpArgs false
namespace Go.Sx
open Go.RowKit
theorem up_len (P : Nat → Bool) (f : Nat → Crit) : ∀ n, (up P f n).length ≤ n
  | 0 => Nat.le_refl _
  | n + 1 => by
    have := up_len P f n
    unfold up
    rw [List.length_append]
    split <;> simp <;> omega
theorem crJ_len {L : Int} {rs : List Rul} (hV : VR L rs) {i : Nat} (hi : i < rs.length) : ∀ j, j ≤ rs.length → (crJ rs i j).length ≤ j * 4100
  | 0, _ => by simp [crJ]
  | j + 1, hj => by
    have h1 := crJ_len hV hi j (by omega)
    have h2 := up_len (ovP (rs.getD i ([], [])) (rs.getD j ([], []))) (ovk (rs.getD i ([], [])) (rs.getD j ([], []))) (min (rs.getD i ([], [])).1.length (rs.getD j ([], [])).1.length)
    have h3 := up_len (cnP (rs.getD i ([], [])) (rs.getD j ([], []))) (cnk (rs.getD i ([], [])) (rs.getD j ([], []))) ((rs.getD i ([], [])).1.length + 1)
    have h4 := (validW_al (hV.v _ (getD_mem (d := ([], [])) hi)).1).1
    show (crJ rs i j ++ _).length ≤ _
    rw [List.length_append, List.length_append]
    unfold ovl
    split
    · simp only [List.length_nil]; omega
    · unfold cnl; omega
theorem crI_len {L : Int} {rs : List Rul} (hV : VR L rs) : ∀ i, i ≤ rs.length → (crI rs i).length ≤ i * 8200000
  | 0, _ => by simp [crI]
  | i + 1, hi => by
    have h1 := crI_len hV i (by omega)
    have h2 := crJ_len hV (show i < rs.length by omega) rs.length (Nat.le_refl _)
    have := hV.n
    show (crI rs i ++ crJ rs i rs.length).length ≤ _
    rw [List.length_append]; omega
theorem crA_len {L : Int} {rs : List Rul} (hV : VR L rs) {q : List Crit} (hq : q <+: crA rs) : q.length ≤ 16400000000 := by
  have h1 := crI_len hV rs.length (Nat.le_refl _)
  have h2 := hV.n
  have h3 := hq.length_le
  unfold crA at h3
  omega
theorem crc_snoc (l : List Crit) (c : Crit) : crc (l ++ [c]) = crc l ++ ccs c := by simp [crc]
end Go.Sx

set_option linter.unusedVariables false
set_option linter.unusedSimpArgs false
namespace Go.Sx
open Go.RowKit
section
variable {rs : List Rul} {i j k p : Nat}
/-- what the reference has come to -/
def rp2 (rs : List Rul) (i j k : Nat) : List Crit := crI rs i ++ crJ rs i j ++ up (ovP (rs.getD i ([], [])) (rs.getD j ([], []))) (ovk (rs.getD i ([], [])) (rs.getD j ([], []))) k
def rp3 (rs : List Rul) (i j p : Nat) : List Crit := crI rs i ++ crJ rs i j ++ ovl (rs.getD i ([], [])) (rs.getD j ([], [])) ++ up (cnP (rs.getD i ([], [])) (rs.getD j ([], []))) (cnk (rs.getD i ([], [])) (rs.getD j ([], []))) p
theorem rp2_one : rp2 rs i j 1 = crI rs i ++ crJ rs i j := by unfold rp2; rw [up_no (ovP_zero _ _)]; simp [up]
theorem rp2_yes (h1 : 1 ≤ k) (h : (rs.getD i ([], [])).1.drop ((rs.getD i ([], [])).1.length - k) = (rs.getD j ([], [])).1.take k) : rp2 rs i j (k + 1) = rp2 rs i j k ++ [ovk (rs.getD i ([], [])) (rs.getD j ([], [])) k] := by
  unfold rp2
  rw [up_yes (by unfold ovP; rw [decide_eq_true h1, decide_eq_true h.symm]; rfl)]
  simp only [List.append_assoc]
theorem rp2_no (h : ¬ (rs.getD i ([], [])).1.drop ((rs.getD i ([], [])).1.length - k) = (rs.getD j ([], [])).1.take k) : rp2 rs i j (k + 1) = rp2 rs i j k := by
  unfold rp2
  rw [up_no (by unfold ovP; rw [Bool.and_eq_false_iff]; exact .inr (decide_eq_false (fun e => h e.symm)))]
theorem rp2_end (h1 : 1 ≤ k) (h2 : k ≤ min (rs.getD i ([], [])).1.length (rs.getD j ([], [])).1.length ∨ k = 1) (h3 : ¬ k < min (rs.getD i ([], [])).1.length (rs.getD j ([], [])).1.length) : rp2 rs i j k = rp3 rs i j 0 := by
  unfold rp2 rp3
  rw [ovl_end h1 h2 h3]; simp [up]
theorem rp3_yes (h : ((rs.getD i ([], [])).1.drop p).take (rs.getD j ([], [])).1.length = (rs.getD j ([], [])).1) : rp3 rs i j (p + 1) = rp3 rs i j p ++ [cnk (rs.getD i ([], [])) (rs.getD j ([], [])) p] := by
  unfold rp3
  rw [up_yes (List.isPrefixOf_iff_prefix.2 (pre_eq h))]
  simp only [List.append_assoc]
theorem rp3_no (h : ¬ ((rs.getD i ([], [])).1.drop p).take (rs.getD j ([], [])).1.length = (rs.getD j ([], [])).1) : rp3 rs i j (p + 1) = rp3 rs i j p := by
  unfold rp3
  have hP : cnP (rs.getD i ([], [])) (rs.getD j ([], [])) p = false := by
    cases hc : cnP (rs.getD i ([], [])) (rs.getD j ([], [])) p
    · rfl
    · exact absurd (List.isPrefixOf_iff_prefix.1 hc) (noPre_eq h)
  rw [up_no hP]
theorem rp3_end (hp : p ≤ (rs.getD i ([], [])).1.length + 1) (hij : i = j → p = 0) (h : i ≠ j → (rs.getD i ([], [])).1.length < p + (rs.getD j ([], [])).1.length) : rp3 rs i j p = crI rs i ++ crJ rs i (j + 1) := by
  unfold rp3
  by_cases e : i = j
  · subst e
    rw [crJ_eq, hij rfl, ← List.append_assoc]; simp [up]
  · rw [crJ_ne e, cnl_end hp (fun q h1 h2 => ?_)]
    · simp only [List.append_assoc]
    · cases hc : cnP (rs.getD i ([], [])) (rs.getD j ([], [])) q
      · rfl
      · have := (List.isPrefixOf_iff_prefix.1 hc).length_le
        rw [List.length_drop] at this
        have := h e
        have h9 := (List.isPrefixOf_iff_prefix.1 hc).length_le
        rw [List.length_drop] at h9
        omega
theorem rp2_pre (hi : i < rs.length) (hj : j < rs.length) (h1 : 1 ≤ k) (h2 : k ≤ min (rs.getD i ([], [])).1.length (rs.getD j ([], [])).1.length ∨ k = 1) : rp2 rs i j k <+: crA rs := by
  refine cr_pre1 hi hj ?_
  rcases (show k ≤ min (rs.getD i ([], [])).1.length (rs.getD j ([], [])).1.length ∨ (k = 1 ∧ min (rs.getD i ([], [])).1.length (rs.getD j ([], [])).1.length = 0) by omega) with h | ⟨rfl, h⟩
  · have := up_pre (P := ovP (rs.getD i ([], [])) (rs.getD j ([], []))) (f := ovk (rs.getD i ([], [])) (rs.getD j ([], []))) k (min (rs.getD i ([], [])).1.length (rs.getD j ([], [])).1.length - k)
    rw [show k + (min (rs.getD i ([], [])).1.length (rs.getD j ([], [])).1.length - k) = min (rs.getD i ([], [])).1.length (rs.getD j ([], [])).1.length by omega] at this
    exact this
  · rw [up_no (ovP_zero _ _)]; exact List.nil_prefix
theorem rp3_pre (hi : i < rs.length) (hj : j < rs.length) (hp : p ≤ (rs.getD i ([], [])).1.length + 1) (hij : i = j → p = 0) : rp3 rs i j p <+: crA rs := by
  by_cases e : i = j
  · subst e
    rw [hij rfl]
    have := cr_pre (rs := rs) hi hi
    rw [crJ_eq] at this
    unfold rp3
    simp only [up, List.append_nil]
    rw [List.append_assoc]; exact this
  · refine cr_pre2 hi hj e ?_
    have := up_pre (P := cnP (rs.getD i ([], [])) (rs.getD j ([], []))) (f := cnk (rs.getD i ([], [])) (rs.getD j ([], []))) p ((rs.getD i ([], [])).1.length + 1 - p)
    rw [show p + ((rs.getD i ([], [])).1.length + 1 - p) = (rs.getD i ([], [])).1.length + 1 by omega] at this
    exact this
end
end Go.Sx

set_option linter.unusedVariables false
set_option linter.unusedSimpArgs false
namespace Go.Sx
open Go.RowKit
/-! ### steps at any place -/
def Stp (rs : List Rul) (u v : Wrd) : Prop := ∃ x y r, r ∈ rs ∧ u = x ++ r.1 ++ y ∧ v = x ++ r.2 ++ y
inductive Stps (rs : List Rul) : Wrd → Wrd → Prop
  | nil (u : Wrd) : Stps rs u u
  | cons {u v w : Wrd} : Stp rs u v → Stps rs v w → Stps rs u w
theorem Stps.trans {rs : List Rul} {u v w : Wrd} (h : Stps rs u v) (k : Stps rs v w) : Stps rs u w := by
  induction h with
  | nil => exact k
  | cons h1 _ ih => exact .cons h1 (ih k)
theorem Stp.one {rs : List Rul} {u v : Wrd} (h : Stp rs u v) : Stps rs u v := .cons h (.nil _)
/-! ### a measure -/
def wv : Wrd → Nat
  | [] => 0
  | c :: u => c.toNat * 256 ^ u.length + wv u
/-! ### critical pairs suffice -/
section
variable {rs : List Rul} {i j : Nat}
def Jn (rs : List Rul) (a b : Wrd) : Prop := ∃ c, Stps rs a c ∧ Stps rs b c
theorem Jn.symm {a b : Wrd} (h : Jn rs a b) : Jn rs b a := by obtain ⟨c, h1, h2⟩ := h; exact ⟨c, h2, h1⟩
theorem Jn.refl (a : Wrd) : Jn rs a a := ⟨a, .nil _, .nil _⟩
end
/-! ### what Confluent answers -/
def crOk (rs : List Rul) (c : Crit) : Option (Crit × Bool × Int) :=
  if 2048 < c.2.1.length ∨ 2048 < c.2.2.length then some (([], [], []), false, 3)
  else match redF rs 100000 c.2.1, redF rs 100000 c.2.2 with
    | some x, some y => if x = y then none else some (c, false, 0)
    | _, _ => some (([], [], []), false, 3)
def cfR (rs : List Rul) (l : List Crit) : Crit × Bool × Int := (l.findSome? (crOk rs)).getD (([], [], []), true, 0)
def AllOk (rs : List Rul) (l : List Crit) : Prop := ∀ c ∈ l, crOk rs c = none
theorem AllOk.nil {rs : List Rul} : AllOk rs [] := fun c h => by cases h
theorem AllOk.snoc {rs : List Rul} {l : List Crit} {c : Crit} (h : AllOk rs l) (hc : crOk rs c = none) : AllOk rs (l ++ [c]) := fun d hd => by
  rcases List.mem_append.1 hd with k | k
  · exact h d k
  · rw [List.mem_singleton.1 k]; exact hc
theorem cfR_all {rs : List Rul} {l : List Crit} (h : AllOk rs l) : cfR rs l = (([], [], []), true, 0) := by
  unfold cfR
  rw [List.findSome?_eq_none_iff.2 h]; rfl
theorem cfR_first {rs : List Rul} {l pre : List Crit} {c : Crit} {z : Crit × Bool × Int} (h : pre ++ [c] <+: l) (hp : AllOk rs pre) (hc : crOk rs c = some z) : cfR rs l = z := by
  obtain ⟨t, rfl⟩ := h
  unfold cfR
  rw [List.findSome?_append, List.findSome?_append, List.findSome?_eq_none_iff.2 hp]
  simp [hc]
end Go.Sx

set_option linter.unusedVariables false
set_option linter.unusedSimpArgs false
namespace Go.Sx
open Go.RowKit
/-! ### equality of structs of three strings -/
section
variable {C : Cx} {sl : List (Nat × Value)} {own : List Asn} {dst : Option Nat} {ty : TypeId} {pos : String} {aft : Array Edge} {g : Option (Nat × Bool)}
end
end Go.Sx

set_option linter.unusedVariables false
set_option linter.unusedSimpArgs false
namespace Go.Sx
open Go.RowKit
section
variable {C : Cx} {sl : List (Nat × Value)} {own : List Asn} {dst : Option Nat} {ty : TypeId} {pos : String} {aft : Array Edge} {g : Option (Nat × Bool)}
theorem Yl.loadCr {x : Operand} {t : TypeId} {v : Value} {n j : Nat} {ps : List Crit} (ht : AggT C.P t 3) (hx : opv ⟨sl, own⟩ x = some (.pointer (some ((slA v).add (j * 3)))))
    (hr : RdS C own v 3 n (crc ps)) (hj : j < ps.length) : Yl C ⟨sl, own⟩ ⟨dst, .load t x, ty, pos, aft, g⟩ (cv (ps.getD j ([], [], []))) := fun a w hs => by
  have hn : n = ps.length := by obtain ⟨_, _, _, _, h, _⟩ := hr w hs.world; rw [crc_length] at h; omega
  have := Yl.loadG (dst := dst) (ty := ty) (pos := pos) (aft := aft) (g := g) ht hx hr (by omega) a w hs
  rw [crc_at ps j hj] at this
  exact this
theorem Yl.loadBoxC {x : Operand} {t b : Nat} {c : Crit} (ht : AggT C.P t 3) (hx : opv ⟨sl, own⟩ x = some (.pointer (some ⟨b, 0, none⟩))) (hb : BoxS C own b (ccs c)) :
    Yl C ⟨sl, own⟩ ⟨dst, .load t x, ty, pos, aft, g⟩ (cv c) := Yl.loadBoxG ht hx hb rfl rfl
theorem ResY.cell1 {s t b : Nat} {v : Value} (ht : OneT C.P t) (hx : get sl s = some (.pointer (some ⟨b, 0, none⟩))) (hb : BoxS C own b [v]) : ResY C ⟨sl, own⟩ (.cell s t) v := fun a w hs => by
  obtain ⟨E, hb⟩ := hb w hs.world
  have h1 : w.cell? ⟨b, 0, none⟩ = some v := by rw [cell_of_row w b 0 _ E (0, 0) hb]; rfl
  have := hs.slot s _ hx
  simp only [resOf, this]
  simp [asAddr, run_loadVar_one ht h1]
end
end Go.Sx

set_option linter.unusedVariables false
set_option linter.unusedSimpArgs false
namespace Go.Sx
open Go.RowKit
/-! ### the words of a critical pair have letters of the alphabet -/
def Lt (u : Wrd) : Prop := ∀ c ∈ u, 97 ≤ c.toNat ∧ c.toNat < 103
theorem Al.lt {u : Wrd} (h : Al u) : Lt u := fun c hc => by
  obtain ⟨k, hk, e⟩ := mem_getD 0 hc
  rw [← e]; exact h.2 k hk
theorem Lt.al {u : Wrd} (h : Lt u) (hl : u.length ≤ 2048) : Al u := ⟨hl, fun k hk => h _ (getD_mem hk)⟩
theorem Lt.app {u v : Wrd} (h : Lt u) (k : Lt v) : Lt (u ++ v) := fun c hc => (List.mem_append.1 hc).elim (h c) (k c)
theorem Lt.take {u : Wrd} (h : Lt u) (n : Nat) : Lt (u.take n) := fun c hc => h c (List.mem_of_mem_take hc)
theorem Lt.drop {u : Wrd} (h : Lt u) (n : Nat) : Lt (u.drop n) := fun c hc => h c (List.mem_of_mem_drop hc)
theorem up_in {P : Nat → Bool} {f : Nat → Crit} {c : Crit} : ∀ n, c ∈ up P f n → ∃ k, c = f k
  | 0, h => by cases h
  | n + 1, h => by
    unfold up at h
    rcases List.mem_append.1 h with k | k
    · exact up_in n k
    · split at k
      · exact ⟨n, List.mem_singleton.1 k⟩
      · cases k
def InRu (rs : List Rul) (c : Crit) : Prop := ∃ a b k, a ∈ rs ∧ b ∈ rs ∧ (c = ovk a b k ∨ c = cnk a b k)
theorem crJ_in {rs : List Rul} {i : Nat} (hi : i < rs.length) {c : Crit} : ∀ j, j ≤ rs.length → c ∈ crJ rs i j → InRu rs c
  | 0, _, h => by cases h
  | j + 1, hj, h => by
    have h' : c ∈ crJ rs i j ++ (ovl (rs.getD i ([], [])) (rs.getD j ([], [])) ++ if i = j then [] else cnl (rs.getD i ([], [])) (rs.getD j ([], []))) := h
    rcases List.mem_append.1 h' with k | k
    · exact crJ_in hi j (by omega) k
    · rcases List.mem_append.1 k with k | k
      · obtain ⟨n, e⟩ := up_in _ k
        exact ⟨_, _, n, getD_mem hi, getD_mem (show j < rs.length by omega), .inl e⟩
      · split at k
        · cases k
        · obtain ⟨n, e⟩ := up_in _ k
          exact ⟨_, _, n, getD_mem hi, getD_mem (show j < rs.length by omega), .inr e⟩
theorem crI_in {rs : List Rul} {c : Crit} : ∀ i, i ≤ rs.length → c ∈ crI rs i → InRu rs c
  | 0, _, h => by cases h
  | i + 1, hi, h => by
    rcases List.mem_append.1 h with k | k
    · exact crI_in i (by omega) k
    · exact crJ_in (show i < rs.length by omega) _ (Nat.le_refl _) k
theorem crA_lt {L : Int} {rs : List Rul} (hV : VR L rs) {c : Crit} (h : c ∈ crA rs) : Lt c.2.1 ∧ Lt c.2.2 := by
  obtain ⟨a, b, k, ha, hb, e⟩ := crI_in _ (Nat.le_refl _) h
  have a1 := (validW_al (hV.v _ ha).1).lt
  have a2 := (validW_al (hV.v _ ha).2.1).lt
  have b1 := (validW_al (hV.v _ hb).1).lt
  have b2 := (validW_al (hV.v _ hb).2.1).lt
  rcases e with rfl | rfl
  · exact ⟨a2.app (b1.drop _), (a1.take _).app b2⟩
  · exact ⟨a2, ((a1.take _).app b2).app (a1.drop _)⟩
theorem crA_al1 {L : Int} {rs : List Rul} (hV : VR L rs) {pre : List Crit} {c : Crit} (h : pre ++ [c] <+: crA rs) (hl : c.2.1.length ≤ 2048) : Al c.2.1 := (crA_lt hV (h.subset (by simp))).1.al hl
theorem crA_al2 {L : Int} {rs : List Rul} (hV : VR L rs) {pre : List Crit} {c : Crit} (h : pre ++ [c] <+: crA rs) (hl : c.2.2.length ≤ 2048) : Al c.2.2 := (crA_lt hV (h.subset (by simp))).2.al hl
/-! ### one pair -/
theorem crOk_long {rs : List Rul} {c : Crit} (h : 2048 < c.2.1.length ∨ 2048 < c.2.2.length) : crOk rs c = some (([], [], []), false, 3) := if_pos h
theorem crOk_lim1 {rs : List Rul} {c : Crit} (h1 : c.2.1.length ≤ 2048) (h2 : c.2.2.length ≤ 2048) (h : redE rs c.2.1 ≠ 0) : redE rs c.2.1 = 3 ∧ crOk rs c = some (([], [], []), false, 3) := by
  rcases red_cases rs c.2.1 with ⟨x, e1, e2, e3⟩ | ⟨e1, e2, e3⟩
  · exact absurd e3 h
  · refine ⟨e3, ?_⟩
    unfold crOk
    rw [if_neg (by omega), e1]
theorem crOk_lim2 {rs : List Rul} {c : Crit} (h1 : c.2.1.length ≤ 2048) (h2 : c.2.2.length ≤ 2048) (h : redE rs c.2.2 ≠ 0) : redE rs c.2.2 = 3 ∧ crOk rs c = some (([], [], []), false, 3) := by
  rcases red_cases rs c.2.2 with ⟨x, e1, e2, e3⟩ | ⟨e1, e2, e3⟩
  · exact absurd e3 h
  · refine ⟨e3, ?_⟩
    unfold crOk
    rw [if_neg (by omega), e1]
    split
    · rename_i k; cases k
    · rfl
theorem crOk_ok {rs : List Rul} {c : Crit} (h1 : c.2.1.length ≤ 2048) (h2 : c.2.2.length ≤ 2048) (k1 : redE rs c.2.1 = 0) (k2 : redE rs c.2.2 = 0) : crOk rs c = if redV rs c.2.1 = redV rs c.2.2 then none else some (c, false, 0) := by
  rcases red_cases rs c.2.1 with ⟨x, e1, e2, e3⟩ | ⟨e1, e2, e3⟩
  · rcases red_cases rs c.2.2 with ⟨y, f1, f2, f3⟩ | ⟨f1, f2, f3⟩
    · unfold crOk
      rw [if_neg (by omega), e1, f1, e2, f2]
    · rw [f3] at k2; cases k2
  · rw [e3] at k1; cases k1
/-! ### what Confluent answers -/
def CfR (rs : List Rul) : Crit × Bool × Int := if errR 6 rs ≠ 0 then (([], [], []), false, errR 6 rs) else cfR rs (crA rs)
theorem allOk_getD {rs : List Rul} {k : Nat} (hk : k < (crA rs).length) (h : AllOk rs ((crA rs).take k)) (hc : crOk rs ((crA rs).getD k ([], [], [])) = none) : AllOk rs ((crA rs).take (k + 1)) := by
  rw [take_snocD ([], [], []) _ k hk]; exact h.snoc hc
theorem cfR_getD {rs : List Rul} {k : Nat} (hk : k < (crA rs).length) (h : AllOk rs ((crA rs).take k)) {z : Crit × Bool × Int} (hc : crOk rs ((crA rs).getD k ([], [], [])) = some z) : cfR rs (crA rs) = z := by
  refine cfR_first (pre := (crA rs).take k) ?_ h hc
  rw [← take_snocD ([], [], []) _ k hk]; exact List.take_prefix _ _
theorem crA_pre {rs : List Rul} {k : Nat} (hk : k < (crA rs).length) : (crA rs).take k ++ [(crA rs).getD k ([], [], [])] <+: crA rs := by
  rw [← take_snocD ([], [], []) _ k hk]; exact List.take_prefix _ _
theorem refV_al {rs : List Rul} {u : Wrd} (h : Al u) : RefV rs u = redV rs u ∧ RefE rs u = redE rs u := ⟨if_pos (al_valid h), if_pos (al_valid h)⟩
end Go.Sx

set_option linter.unusedVariables false
set_option linter.unusedSimpArgs false
namespace Go.Sx
open Go.RowKit
section
variable {C : Cx} {sl : List (Nat × Value)} {own : List Asn} {dst : Option Nat} {ty : TypeId} {pos : String} {aft : Array Edge} {g : Option (Nat × Bool)}
end
end Go.Sx

set_option linter.unusedVariables false
set_option linter.unusedSimpArgs false
namespace Go.Sx
open Go.RowKit
/-! ### the automaton of the reduced words -/
theorem snoc_ind {P : Wrd → Prop} (h0 : P []) (hs : ∀ u a, P u → P (u ++ [a])) (w : Wrd) : P w := by
  have : ∀ r : Wrd, P r.reverse := fun r => by
    induction r with
    | nil => exact h0
    | cons a r ih => rw [List.reverse_cons]; exact hs _ _ ih
  have h := this w.reverse
  rwa [List.reverse_reverse] at h
def Fac (rs : List Rul) (w : Wrd) : Prop := ∃ j, j < rs.length ∧ (rs.getD j ([], [])).1 <:+: w
theorem infix_iff (u L : Wrd) : (∃ i, i ≤ u.length ∧ L <+: u.drop i) ↔ L <:+: u := by
  constructor
  · rintro ⟨i, _, t, ht⟩
    exact ⟨u.take i, t, by rw [List.append_assoc, ht, List.take_append_drop]⟩
  · rintro ⟨s, t, h⟩
    refine ⟨s.length, by rw [← h]; simp, t, ?_⟩
    rw [← h, List.append_assoc, List.drop_left]
theorem once_fac {L : Int} {rs : List Rul} (hV : VR L rs) {w : Wrd} : once rs w = none ↔ ¬ Fac rs w := by
  rw [no_once hV]
  constructor
  · rintro h ⟨j, hj, hi⟩
    exact h j hj ((contains_iff _ _).2 ((infix_iff _ _).2 hi))
  · intro h j hj hc
    exact h ⟨j, hj, (infix_iff _ _).1 ((contains_iff _ _).1 hc)⟩
theorem fac_left {rs : List Rul} {u : Wrd} (v : Wrd) (h : Fac rs u) : Fac rs (u ++ v) := by
  obtain ⟨j, hj, hi⟩ := h
  exact ⟨j, hj, hi.trans (List.infix_append' [] u v |>.trans (by simp))⟩
theorem fac_suf {rs : List Rul} {u v : Wrd} (hs : u <:+ v) (h : Fac rs u) : Fac rs v := by
  obtain ⟨j, hj, hi⟩ := h
  exact ⟨j, hj, hi.trans hs.isInfix⟩
theorem fac_snoc {rs : List Rul} {u : Wrd} {a : UInt8} (h : Fac rs (u ++ [a])) : Fac rs u ∨ ∃ j, j < rs.length ∧ (rs.getD j ([], [])).1 <:+ u ++ [a] := by
  obtain ⟨j, hj, hi⟩ := h
  rcases List.infix_concat_iff.1 hi with h | h
  · exact .inr ⟨j, hj, h⟩
  · exact .inl ⟨j, hj, h⟩
def lfs (rs : List Rul) : List Wrd := rs.map (·.1)
theorem lfs_len (rs : List Rul) : (lfs rs).length = rs.length := by simp [lfs]
theorem lfs_get (rs : List Rul) {k : Nat} (h : k < rs.length) : (lfs rs).getD k [] = (rs.getD k ([], [])).1 := by
  simp [lfs, List.getD_eq_getElem?_getD, List.getElem?_eq_getElem h]
/-! of the finder -/
def finR (L : Int) (fl fd : List Int) (s : Nat) : List Int := (List.range L.toNat).map fun x => if 0 ≤ fd.getD s 0 then (s : Int) else fl.getD (s * 6 + x) 0
def finD (L : Int) (fl fd : List Int) : Dfa := ⟨L, 0, fd.map fun z => decide (z < 0), (List.range fd.length).map (finR L fl fd)⟩
theorem finR_len (L : Int) (fl fd : List Int) (s : Nat) : (finR L fl fd s).length = L.toNat := by simp [finR]
theorem finR_get {L : Int} {fl fd : List Int} {s x : Nat} (hx : x < L.toNat) : (finR L fl fd s).getD x 0 = if 0 ≤ fd.getD s 0 then (s : Int) else fl.getD (s * 6 + x) 0 := by
  simp [finR, List.getD_eq_getElem?_getD, hx]
theorem finD_row {L : Int} {fl fd : List Int} {s : Nat} (hs : s < fd.length) : (finD L fl fd).nx.getD s [] = finR L fl fd s := by
  simp [finD, List.getD_eq_getElem?_getD, hs]
theorem finD_len (L : Int) (fl fd : List Int) : (finD L fl fd).fin.length = fd.length := by simp [finD]
theorem finD_fin {L : Int} {fl fd : List Int} {s : Nat} (hs : s < fd.length) : finQ (finD L fl fd) (s : Int) = decide (fd.getD s 0 < 0) := by
  simp [finQ, finD, List.getD_eq_getElem?_getD, hs]
section
variable {rs : List Rul} {N : List Wrd} {fl fd : List Int} {L : Int}
theorem finD_vd (hF : FinOK (lfs rs) N fl fd) (hL : 1 ≤ L ∧ L ≤ 6) (hN : N.length ≤ 512) : VD (finD L fl fd) where
  L := hL
  n := by rw [finD_len, hF.fdl]; exact hN
  nx := by simp [finD]
  s := by rw [finD_len, hF.fdl]; have := hF.z.1; exact ⟨Int.le_refl _, by show (0 : Int) < _; omega⟩
  row := fun i hi => by
    rw [finD_len] at hi
    rw [finD_row hi, finR_len]; show ((L.toNat : Nat) : Int) = L; omega
  to := fun i x hi hx => by
    rw [finD_len] at hi ⊢
    rw [finD_row hi] at hx ⊢
    rw [finR_len] at hx
    rw [finR_get hx]
    have hfd := hF.fdl
    split
    · omega
    · obtain ⟨t, e, h1, _⟩ := hF.go i (by omega) x (by omega)
      rw [e]; omega
theorem At.suf_fac (hF : FinOK (lfs rs) N fl fd) (hV : VR L rs) {w : Wrd} {t : Nat} (ht : t < N.length) (he : N.getD t [] = lsuf N w) : (0 ≤ fd.getD t 0 ↔ ∃ j, j < rs.length ∧ (rs.getD j ([], [])).1 <:+ w) := by
  have hl := hF.fnd t ht
  rw [he] at hl
  constructor
  · intro h
    obtain ⟨j, _, h1, ⟨_, h2⟩, _⟩ := hl.pos (by omega)
    rw [lfs_len] at h1
    rw [lfs_get rs h1] at h2
    exact ⟨j, h1, h2.trans (lsuf_suf N w)⟩
  · rintro ⟨j, hj, hs⟩
    rcases (show fd.getD t 0 < 0 ∨ 0 ≤ fd.getD t 0 by omega) with k | k
    · have hm := hF.mem j (by rw [lfs_len]; exact hj)
      have := hl.neg k j (by rw [lfs_len]; exact hj)
      rw [lfs_get rs hj] at this hm
      exact absurd ⟨(hV.left hj).1, suf_lsuf hm w hs⟩ this
    · exact k
theorem finD_run (hF : FinOK (lfs rs) N fl fd) (hV : VR L rs) (hN : N.length ≤ 512) {L' : Int} (hL : 1 ≤ L' ∧ L' ≤ 6) (w : Wrd) (hw : Okw (finD L' fl fd) w) :
    (¬ Fac rs w → At N (lsuf N w) (runI (finD L' fl fd) 0 w)) ∧ (Fac rs w → ∃ t : Nat, runI (finD L' fl fd) 0 w = (t : Int) ∧ t < N.length ∧ 0 ≤ fd.getD t 0) := by
  revert hw
  refine snoc_ind (P := fun w => Okw (finD L' fl fd) w → (¬ Fac rs w → At N (lsuf N w) (runI (finD L' fl fd) 0 w)) ∧ (Fac rs w → ∃ t : Nat, runI (finD L' fl fd) 0 w = (t : Int) ∧ t < N.length ∧ 0 ≤ fd.getD t 0)) ?_ ?_ w
  · intro _
    refine ⟨fun _ => ⟨0, rfl, hF.z.1, hF.z.2⟩, ?_⟩
    rintro ⟨j, hj, hi⟩
    exact absurd (List.infix_nil.1 hi) (hV.left hj).1
  · intro u a ih hw
    obtain ⟨ih1, ih2⟩ := ih hw.left
    have ha : okB L' a = true := (okw_cons.1 hw.right).1
    simp only [okB, decide_eq_true_eq] at ha
    obtain ⟨x, hx6, rfl, hxa⟩ := ltr_of (c := a) (by omega)
    have hxL : x < L'.toNat := by omega
    rw [runI_snoc1 _ _ _ (by omega)]
    have hfd := hF.fdl
    have stp : ∀ t : Nat, t < N.length → stepQ (finD L' fl fd) (t : Int) x = if 0 ≤ fd.getD t 0 then (t : Int) else fl.getD (t * 6 + x) 0 := fun t ht => by
      unfold stepQ
      rw [Int.toNat_natCast, finD_row (by omega), finR_get hxL]
    by_cases hu : Fac rs u
    · obtain ⟨t, e, h1, h2⟩ := ih2 hu
      refine ⟨fun h => absurd (fac_left [ltr x] hu) h, fun _ => ⟨t, ?_, h1, h2⟩⟩
      rw [e, stp t h1, if_pos h2]
    · obtain ⟨t, e, h1, h2⟩ := ih1 hu
      have hneg : ¬ 0 ≤ fd.getD t 0 := fun k => by
        obtain ⟨j, hj, hs⟩ := (At.suf_fac hF hV h1 h2).1 k
        exact hu ⟨j, hj, hs.isInfix⟩
      obtain ⟨t', e', h1', h2'⟩ := hF.go t h1 x hx6
      rw [h2, ← lsuf_snoc hF.pc] at h2'
      rw [e, stp t h1, if_neg hneg, e']
      refine ⟨fun _ => ⟨t', rfl, h1', h2'⟩, fun h => ⟨t', rfl, h1', ?_⟩⟩
      rcases fac_snoc h with k | k
      · exact absurd k hu
      · exact (At.suf_fac hF hV h1' h2').2 k
/-- the language is that of the reduced words -/
def Irr (rs : List Rul) (c : Dfa) : Prop := ∀ l, Okw c l → finQ c (runI c c.s l) = (once rs l).isNone
theorem isNone_fac (hV : VR L rs) (w : Wrd) : (once rs w).isNone = true ↔ ¬ Fac rs w := by
  rw [← once_fac hV]; cases once rs w <;> simp
theorem irr_of {c : Dfa} (hV : VR L rs) (h1 : ∀ l, Okw c l → ¬ Fac rs l → finQ c (runI c c.s l) = true) (h2 : ∀ l, Okw c l → Fac rs l → finQ c (runI c c.s l) = false) : Irr rs c := fun l hl => by
  by_cases hf : Fac rs l
  · rw [h2 l hl hf]
    cases h : (once rs l).isNone
    · rfl
    · exact absurd hf ((isNone_fac hV l).1 h)
  · rw [h1 l hl hf, (isNone_fac hV l).2 hf]
theorem finD_irr (hF : FinOK (lfs rs) N fl fd) (hV : VR L rs) (hN : N.length ≤ 512) {L' : Int} (hL : 1 ≤ L' ∧ L' ≤ 6) : Irr rs (finD L' fl fd) := by
  have hfd := hF.fdl
  refine irr_of hV (fun l hl hf => ?_) (fun l hl hf => ?_)
  · obtain ⟨t, e, h1, h2⟩ := (finD_run hF hV hN hL l hl).1 hf
    show finQ (finD L' fl fd) (runI (finD L' fl fd) 0 l) = true
    rw [e, finD_fin (by omega), decide_eq_true_eq]
    have := At.suf_fac hF hV h1 h2
    rcases (show fd.getD t 0 < 0 ∨ 0 ≤ fd.getD t 0 by omega) with k | k
    · exact k
    · obtain ⟨j, hj, hs⟩ := this.1 k
      exact absurd ⟨j, hj, hs.isInfix⟩ hf
  · obtain ⟨t, e, h1, h2⟩ := (finD_run hF hV hN hL l hl).2 hf
    show finQ (finD L' fl fd) (runI (finD L' fl fd) 0 l) = false
    rw [e, finD_fin (by omega), decide_eq_false_iff_not]; omega
end
/-- of such automata all have the same minimal one -/
theorem irr_min {rs : List Rul} {a b : Dfa} (ha : VD a) (hb : VD b) (hL : a.L = b.L) (h1 : Irr rs a) (h2 : Irr rs b) : minD a = minD b :=
  min_eq ha hb hL fun l hl => (h1 l hl).trans (h2 l ((okw_L hL).1 hl)).symm
/-! of the reference -/
structure Pfx (rs : List Rul) (S : List Wrd) : Prop where
  nd : S.Nodup
  z : 0 < S.length ∧ S.getD 0 [] = []
  mem : ∀ u, u ∈ S ↔ u = [] ∨ ∃ j n, j < rs.length ∧ 1 ≤ n ∧ n < (rs.getD j ([], [])).1.length ∧ u = (rs.getD j ([], [])).1.take n
def refR (L : Int) (rs : List Rul) (S : List Wrd) (s : Wrd) : List Int := (List.range L.toNat).map fun x => if once rs (s ++ [ltr x]) = none then ((posN S (lsuf S (s ++ [ltr x])) : Nat) : Int) else (S.length : Int)
def refD (L : Int) (rs : List Rul) (S : List Wrd) : Dfa := ⟨L, 0, S.map (fun s => (once rs s).isNone) ++ [false], S.map (refR L rs S) ++ [List.replicate L.toNat (S.length : Int)]⟩
section
variable {rs : List Rul} {S : List Wrd} {L L' : Int}
theorem Pfx.pc (h : Pfx rs S) : PreC S := fun u a hm => by
  rcases (h.mem _).1 hm with e | ⟨j, n, hj, h1, h2, e⟩
  · simp at e
  · by_cases hn : n = 1
    · refine (h.mem u).2 (.inl ?_)
      have := congrArg List.length e
      simp only [List.length_append, List.length_take, List.length_cons, List.length_nil] at this
      exact List.length_eq_zero_iff.1 (by omega)
    · refine (h.mem u).2 (.inr ⟨j, n - 1, hj, by omega, by omega, ?_⟩)
      have hl := congrArg List.length e
      simp only [List.length_append, List.length_take, List.length_cons, List.length_nil] at hl
      have : u = (u ++ [a]).take u.length := by simp
      rw [this, e, List.take_take]; congr 1; omega
theorem refR_len (s : Wrd) : (refR L rs S s).length = L.toNat := by simp [refR]
theorem refR_get {s : Wrd} {x : Nat} (hx : x < L.toNat) : (refR L rs S s).getD x 0 = if once rs (s ++ [ltr x]) = none then ((posN S (lsuf S (s ++ [ltr x])) : Nat) : Int) else (S.length : Int) := by
  simp [refR, List.getD_eq_getElem?_getD, hx]
theorem refD_len : (refD L rs S).fin.length = S.length + 1 := by simp [refD]
theorem refD_row {s : Nat} (hs : s < S.length) : (refD L rs S).nx.getD s [] = refR L rs S (S.getD s []) := by
  simp only [refD]
  rw [getD_app_lt (by simpa using hs)]
  simp [List.getD_eq_getElem?_getD, hs]
theorem refD_dead : (refD L rs S).nx.getD S.length [] = List.replicate L.toNat (S.length : Int) := by
  simp only [refD]
  rw [getD_app_ge (by simp)]
  simp
theorem refD_vd (h : Pfx rs S) (hL : 1 ≤ L ∧ L ≤ 6) (hn : S.length < 512) : VD (refD L rs S) where
  L := hL
  n := by rw [refD_len]; omega
  nx := by simp [refD]
  s := by rw [refD_len]; exact ⟨Int.le_refl _, by show (0 : Int) < _; omega⟩
  row := fun i hi => by
    rw [refD_len] at hi
    show _ = L
    by_cases k : i < S.length
    · rw [refD_row k, refR_len]; omega
    · rw [show i = S.length by omega, refD_dead, List.length_replicate]; omega
  to := fun i x hi hx => by
    rw [refD_len] at hi ⊢
    by_cases k : i < S.length
    · rw [refD_row k] at hx ⊢
      rw [refR_len] at hx
      rw [refR_get hx]
      have := posN_le S (lsuf S (S.getD i [] ++ [ltr x]))
      split <;> omega
    · rw [show i = S.length by omega, refD_dead] at hx ⊢
      rw [List.length_replicate] at hx
      rw [List.getD_eq_getElem?_getD, List.getElem?_replicate, if_pos hx]; simp; omega
theorem refD_run (h : Pfx rs S) (hV : VR L rs) (hL : 1 ≤ L' ∧ L' ≤ 6) (w : Wrd) (hw : Okw (refD L' rs S) w) :
    (¬ Fac rs w → runI (refD L' rs S) 0 w = ((posN S (lsuf S w) : Nat) : Int)) ∧ (Fac rs w → runI (refD L' rs S) 0 w = (S.length : Int)) := by
  revert hw
  have h0 : [] ∈ S := (h.mem []).2 (.inl rfl)
  have gp : ∀ u : Wrd, u ∈ S → S.getD (posN S u) [] = u := fun u hu => by
    obtain ⟨k, hk, e⟩ := mem_getD [] hu
    rw [← e, posN_at [] h.nd hk]
  refine snoc_ind (P := fun w => Okw (refD L' rs S) w → (¬ Fac rs w → runI (refD L' rs S) 0 w = ((posN S (lsuf S w) : Nat) : Int)) ∧ (Fac rs w → runI (refD L' rs S) 0 w = (S.length : Int))) ?_ ?_ w
  · intro _
    refine ⟨fun _ => ?_, ?_⟩
    · have : posN S [] = 0 := by rw [← h.z.2]; exact posN_at [] h.nd h.z.1
      show (0 : Int) = ((posN S [] : Nat) : Int)
      rw [this]; rfl
    · rintro ⟨j, hj, hi⟩
      exact absurd (List.infix_nil.1 hi) (hV.left hj).1
  · intro u a ih hw
    obtain ⟨ih1, ih2⟩ := ih hw.left
    have ha : okB L' a = true := (okw_cons.1 hw.right).1
    simp only [okB, decide_eq_true_eq] at ha
    obtain ⟨x, hx6, rfl, hxa⟩ := ltr_of (c := a) (by omega)
    have hxL : x < L'.toNat := by omega
    rw [runI_snoc1 _ _ _ (by omega)]
    by_cases hu : Fac rs u
    · refine ⟨fun k => absurd (fac_left [ltr x] hu) k, fun _ => ?_⟩
      rw [ih2 hu]
      unfold stepQ
      rw [Int.toNat_natCast, refD_dead, List.getD_eq_getElem?_getD, List.getElem?_replicate, if_pos hxL]; rfl
    · have hm := lsuf_mem h0 u
      have hstep : stepQ (refD L' rs S) ((posN S (lsuf S u) : Nat) : Int) x = if once rs (lsuf S u ++ [ltr x]) = none then ((posN S (lsuf S (lsuf S u ++ [ltr x])) : Nat) : Int) else (S.length : Int) := by
        unfold stepQ
        rw [Int.toNat_natCast, refD_row (posN_lt hm), gp _ hm, refR_get hxL]
      have hsf : lsuf S u ++ [ltr x] <:+ u ++ [ltr x] := by
        obtain ⟨t, ht⟩ := lsuf_suf S u
        exact ⟨t, by rw [← List.append_assoc, ht]⟩
      rw [ih1 hu, hstep]
      refine ⟨fun k => ?_, fun k => ?_⟩
      · rw [if_pos ((once_fac hV).2 fun e => k (fac_suf hsf e)), ← lsuf_snoc h.pc]
      · rw [if_neg]
        rw [once_fac hV]
        refine fun nn => nn ?_
        rcases fac_snoc k with k | ⟨j, hj, hs⟩
        · exact absurd k hu
        · refine ⟨j, hj, ?_⟩
          obtain ⟨p, c, hpc⟩ : ∃ p c, (rs.getD j ([], [])).1 = p ++ [c] := ⟨_, _, (List.dropLast_concat_getLast (hV.left hj).1).symm⟩
          rw [hpc] at hs ⊢
          obtain ⟨t, ht⟩ := hs
          rw [← List.append_assoc] at ht
          have e1 := List.append_inj_left' ht rfl
          have e2 := List.append_inj_right' ht rfl
          have hp : p ∈ S := by
            rw [h.mem]
            by_cases hpn : p = []
            · exact .inl hpn
            · refine .inr ⟨j, p.length, hj, ?_, ?_, ?_⟩
              · have := List.length_pos_iff.2 hpn; omega
              · rw [hpc]; simp
              · rw [hpc]; simp
          obtain ⟨q, hq⟩ := suf_lsuf hp u ⟨t, e1⟩
          rw [e2]
          exact List.IsSuffix.isInfix ⟨q, by rw [← List.append_assoc, hq]⟩
theorem refD_irr (h : Pfx rs S) (hV : VR L rs) (hL : 1 ≤ L' ∧ L' ≤ 6) : Irr rs (refD L' rs S) := by
  have h0 : [] ∈ S := (h.mem []).2 (.inl rfl)
  have gp : ∀ u : Wrd, u ∈ S → S.getD (posN S u) [] = u := fun u hu => by
    obtain ⟨k, hk, e⟩ := mem_getD [] hu
    rw [← e, posN_at [] h.nd hk]
  refine irr_of hV (fun l hl hf => ?_) (fun l hl hf => ?_)
  · show finQ (refD L' rs S) (runI (refD L' rs S) 0 l) = true
    have hm := lsuf_mem h0 l
    rw [(refD_run h hV hL l hl).1 hf]
    unfold finQ
    rw [Int.toNat_natCast]
    simp only [refD]
    rw [getD_app_lt (by simpa using posN_lt hm)]
    have e : (S.map fun s => (once rs s).isNone).getD (posN S (lsuf S l)) false = (once rs (S.getD (posN S (lsuf S l)) [])).isNone := by
      simp [List.getD_eq_getElem?_getD, List.getElem?_eq_getElem (posN_lt hm)]
    rw [e, gp _ hm, isNone_fac hV]
    exact fun k => hf (fac_suf (lsuf_suf S l) k)
  · show finQ (refD L' rs S) (runI (refD L' rs S) 0 l) = false
    rw [(refD_run h hV hL l hl).2 hf]
    unfold finQ
    rw [Int.toNat_natCast]
    simp only [refD]
    rw [getD_app_ge (by simp)]
    simp
end
end Go.Sx

set_option linter.unusedVariables false
set_option linter.unusedSimpArgs false
namespace Go.Sx
open Go.RowKit
/-- what Irreducible answers -/
def IrrP (L : Int) (rs : List Rul) (d : Dfa) (e : Int) : Prop :=
  (errR L rs ≠ 0 ∧ e = errR L rs ∧ d = nilD) ∨ (errR L rs = 0 ∧ 511 < tot (lfs rs) rs.length ∧ e = 3 ∧ d = nilD) ∨ (errR L rs = 0 ∧ tot (lfs rs) rs.length ≤ 511 ∧ e = 0 ∧ ∃ c, VD c ∧ c.L = L ∧ d = minD c ∧ Irr rs c)
theorem IrrP.uniq {L : Int} {rs : List Rul} {d d' : Dfa} {e e' : Int} (h : IrrP L rs d e) (k : IrrP L rs d' e') : d = d' ∧ e = e' := by
  rcases h with ⟨h1, rfl, rfl⟩ | ⟨h1, h2, rfl, rfl⟩ | ⟨h1, h2, rfl, c, hc, hcL, rfl, hi⟩ <;> rcases k with ⟨k1, rfl, rfl⟩ | ⟨k1, k2, rfl, rfl⟩ | ⟨k1, k2, rfl, c', kc, kcL, rfl, ki⟩
  all_goals first | exact ⟨rfl, rfl⟩ | (exfalso; omega) | skip
  exact ⟨irr_min hc kc (hcL.trans kcL.symm) hi ki, rfl⟩
def c6 (fl : List Int) (s : Nat) : List Value := ((fl.map (Value.int .i32)).drop (s * 6)).take 6
theorem c6_len {fl : List Int} {s : Nat} (h : s * 6 + 6 ≤ fl.length) : (c6 fl s).length = 6 := by simp [c6]; omega
theorem c6_get {fl : List Int} {s x p : Nat} (e : p = x) (hx : x < 6) (h : s * 6 + x < fl.length) : (c6 fl s)[p]? = some (.int .i32 (fl.getD (s * 6 + x) 0)) := by
  subst e
  unfold c6
  rw [List.getElem?_take, if_pos hx, List.getElem?_drop]
  exact at6 h rfl
theorem c6_one (fl : List Int) (s : Nat) : one' (c6 fl s) := fun u hu => by
  have := List.mem_of_mem_drop (List.mem_of_mem_take hu)
  obtain ⟨c, _, rfl⟩ := List.mem_map.1 this; rfl
theorem tot_mono (ps : List Wrd) (k : Nat) : ∀ n, tot ps k ≤ tot ps (k + n)
  | 0 => Nat.le_refl _
  | n + 1 => Nat.le_trans (tot_mono ps k n) (by show _ ≤ tot ps (k + n) + _; omega)
theorem lfs_fill {rs : List Rul} {k : Nat} (hk : k < rs.length) : (((lfs rs).take k ++ List.replicate (rs.length - k) []).map sv).set k (sv (rs.getD k ([], [])).1) = ((lfs rs).take (k + 1) ++ List.replicate (rs.length - (k + 1)) []).map sv := by
  rw [take_snocD [] (lfs rs) k (by rw [lfs_len]; exact hk), lfs_get rs hk]
  exact fill_set sv _ [] _ rs.length k (by rw [List.length_take, lfs_len]; omega) hk
theorem finD_takeF {L : Int} {fl fd : List Int} {k : Nat} (hk : k < fd.length) : (finD L fl fd).fin.take (k + 1) = (finD L fl fd).fin.take k ++ [decide (fd.getD k 0 < 0)] := by
  rw [take_snocD false _ k (by rw [finD_len]; exact hk)]
  have := finD_fin (L := L) (fl := fl) hk
  unfold finQ at this
  rw [Int.toNat_natCast] at this; rw [this]
theorem finD_nx (L : Int) (fl fd : List Int) : (finD L fl fd).nx.length = fd.length := by simp [finD]
theorem finD_takeN {L : Int} {fl fd : List Int} {k : Nat} (hk : k < fd.length) : (finD L fl fd).nx.take (k + 1) = (finD L fl fd).nx.take k ++ [finR L fl fd k] := by
  rw [take_snocD [] _ k (by rw [finD_nx]; exact hk), finD_row hk]
theorem al_lfs {L : Int} {rs : List Rul} (hV : VR L rs) : ∀ k, k < (lfs rs).length → Al ((lfs rs).getD k []) := fun k hk => by
  rw [lfs_len] at hk
  rw [lfs_get rs hk]
  exact validW_al (hV.v _ (getD_mem hk)).1
end Go.Sx

set_option linter.unusedVariables false
set_option linter.unusedSimpArgs false
namespace Go.Sx
open Go.RowKit
theorem bbeq (a b : List UInt8) : ((⟨a.toArray⟩ : ByteArray) == ⟨b.toArray⟩) = decide (a = b) := by
  show (a.toArray == b.toArray) = decide (a = b)
  rw [Bool.eq_iff_iff, beq_iff_eq, decide_eq_true_eq]
  constructor
  · intro h; simpa using h
  · intro h; rw [h]
theorem keyStr {P : Program} {kt : TypeId} (hk : P.underlying kt = some .string) : KeyL P kt sv where
  find := by
    intro a es ks w h
    have now : ∀ (es : List MapEntry) (ks : List (List UInt8)) (j : Nat), es.map (·.key) = ks.map sv → Instr.findNow .string (sv a) es j = some ((fidx a ks).bind fun i => (es[i]?).map fun e => (j + i, e.val)) := by
      intro es
      induction es with
      | nil => intro ks j h; cases ks with
        | nil => simp [Instr.findNow, fidx]
        | cons k ks => simp at h
      | cons e es ih =>
        intro ks j h
        cases ks with
        | nil => simp at h
        | cons k ks =>
          simp at h
          have hq : Instr.sameNow .string (sv a) (sv k) = some (decide (a = k)) := by
            show some ((⟨a.toArray⟩ : ByteArray) == ⟨k.toArray⟩) = _
            rw [bbeq]
          simp only [Instr.findNow, h.1, hq, fidx]
          by_cases hak : a = k
          · simp [hak]
          · simp only [hak, decide_false, if_false]
            rw [ih ks (j + 1) (by simpa using h.2)]
            cases fidx a ks with
            | none => simp
            | some i =>
              simp only [Option.map_some, Option.bind_some, List.getElem?_cons_succ]
              cases es[i]? with
              | none => rfl
              | some e' => simp; omega
    simp only [Instr.findKey, Sem.run_bind, run_underlying hk, Result.andThen_ok, now es ks 0 h]
    simp
  check := by
    intro e a w
    have : ∀ n, (Instr.checkKey e (n + 1) kt (sv a)).run P w = .ok () w := fun n => by simp [Instr.checkKey, run_underlying hk, sv]
    exact this 9999
  same := by
    intro a
    have : ∀ n, Instr.sameBits (n + 1) (sv a) (sv a) = true := fun n => by
      show ((⟨a.toArray⟩ : ByteArray) == ⟨a.toArray⟩) = true
      rw [bbeq]; simp
    exact this 9999

/-- the proper beginnings of the first i Lefts, and those of the next one that are shorter than n -/
structure PfI (rs : List Rul) (i n : Nat) (S : List Wrd) : Prop where
  nd : S.Nodup
  z : 0 < S.length ∧ S.getD 0 [] = []
  il : i ≤ rs.length
  n1 : 1 ≤ n
  nl : i < rs.length → n ≤ (rs.getD i ([], [])).1.length
  mem : ∀ u, u ∈ S ↔ u = [] ∨ (∃ j m, j < i ∧ 1 ≤ m ∧ m < (rs.getD j ([], [])).1.length ∧ u = (rs.getD j ([], [])).1.take m) ∨ (∃ m, 1 ≤ m ∧ m < n ∧ u = (rs.getD i ([], [])).1.take m)
  len : S.length ≤ tot (lfs rs) i + n
section
variable {L : Int} {rs : List Rul} {S : List Wrd} {i n : Nat}
theorem PfI.init (hV : VR L rs) : PfI rs 0 1 [[]] where
  nd := by simp
  z := ⟨by simp, rfl⟩
  il := Nat.zero_le _
  n1 := Nat.le_refl _
  nl := fun h => by have := List.length_pos_iff.2 (hV.left h).1; omega
  mem := fun u => by
    constructor
    · intro h; exact .inl (by simpa using h)
    · rintro (h | ⟨j, m, h, _⟩ | ⟨m, h1, h2, _⟩)
      · simp [h]
      · omega
      · omega
  len := by simp
theorem PfI.skip (h : PfI rs i n S) (hi : i < rs.length) (hn : n < (rs.getD i ([], [])).1.length) (hm : (rs.getD i ([], [])).1.take n ∈ S) : PfI rs i (n + 1) S where
  nd := h.nd
  z := h.z
  il := h.il
  n1 := by omega
  nl := fun k => by omega
  mem := fun u => ⟨fun hu => by
      rcases (h.mem u).1 hu with a | b | ⟨m, h1, h2, h3⟩
      · exact .inl a
      · exact .inr (.inl b)
      · exact .inr (.inr ⟨m, h1, by omega, h3⟩), fun k => by
      rcases k with a | b | ⟨m, h1, h2, h3⟩
      · exact (h.mem u).2 (.inl a)
      · exact (h.mem u).2 (.inr (.inl b))
      · by_cases e : m = n
        · rw [h3, e]; exact hm
        · exact (h.mem u).2 (.inr (.inr ⟨m, h1, by omega, h3⟩))⟩
  len := by have := h.len; omega
theorem PfI.add (h : PfI rs i n S) (hi : i < rs.length) (hn : n < (rs.getD i ([], [])).1.length) (hm : (rs.getD i ([], [])).1.take n ∉ S) : PfI rs i (n + 1) (S ++ [(rs.getD i ([], [])).1.take n]) where
  nd := by
    rw [List.nodup_append]
    exact ⟨h.nd, by simp, fun a ha c hc => by simp at hc; subst hc; intro e; subst e; exact hm ha⟩
  z := ⟨by simp, by rw [getD_app_lt h.z.1]; exact h.z.2⟩
  il := h.il
  n1 := by omega
  nl := fun k => by omega
  mem := fun u => ⟨fun hu => by
      rcases List.mem_append.1 hu with hu | hu
      · rcases (h.mem u).1 hu with a | b | ⟨m, h1, h2, h3⟩
        · exact .inl a
        · exact .inr (.inl b)
        · exact .inr (.inr ⟨m, h1, by omega, h3⟩)
      · exact .inr (.inr ⟨n, h.n1, by omega, by simpa using hu⟩), fun k => by
      rcases k with a | b | ⟨m, h1, h2, h3⟩
      · exact List.mem_append_left _ ((h.mem u).2 (.inl a))
      · exact List.mem_append_left _ ((h.mem u).2 (.inr (.inl b)))
      · by_cases e : m = n
        · rw [h3, e]; exact List.mem_append_right _ (by simp)
        · exact List.mem_append_left _ ((h.mem u).2 (.inr (.inr ⟨m, h1, by omega, h3⟩)))⟩
  len := by have := h.len; rw [List.length_append]; simp; omega
theorem PfI.next (hV : VR L rs) (h : PfI rs i n S) (hi : i < rs.length) (hn : ¬ n < (rs.getD i ([], [])).1.length) : PfI rs (i + 1) 1 S where
  nd := h.nd
  z := h.z
  il := hi
  n1 := Nat.le_refl _
  nl := fun k => by have := List.length_pos_iff.2 (hV.left k).1; omega
  mem := fun u => ⟨fun hu => by
      rcases (h.mem u).1 hu with a | ⟨j, m, h0, h1, h2, h3⟩ | ⟨m, h1, h2, h3⟩
      · exact .inl a
      · exact .inr (.inl ⟨j, m, by omega, h1, h2, h3⟩)
      · exact .inr (.inl ⟨i, m, by omega, h1, by have := h.nl hi; omega, h3⟩), fun k => by
      rcases k with a | ⟨j, m, h0, h1, h2, h3⟩ | ⟨m, h1, h2, h3⟩
      · exact (h.mem u).2 (.inl a)
      · by_cases e : j = i
        · subst e; exact (h.mem u).2 (.inr (.inr ⟨m, h1, by omega, h3⟩))
        · exact (h.mem u).2 (.inr (.inl ⟨j, m, by omega, h1, h2, h3⟩))
      · omega⟩
  len := by
    have h1 := h.len
    have h2 := h.nl hi
    have : tot (lfs rs) (i + 1) = tot (lfs rs) i + (rs.getD i ([], [])).1.length := by show tot (lfs rs) i + _ = _; rw [lfs_get rs hi]
    omega
theorem PfI.done (h : PfI rs i 1 S) (hi : ¬ i < rs.length) : Pfx rs S where
  nd := h.nd
  z := h.z
  mem := fun u => by
    have hil := h.il
    rw [h.mem u]
    constructor
    · rintro (a | ⟨j, m, h0, h1, h2, h3⟩ | ⟨m, h1, h2, _⟩)
      · exact .inl a
      · exact .inr ⟨j, m, by omega, h1, h2, h3⟩
      · omega
    · rintro (a | ⟨j, m, h0, h1, h2, h3⟩)
      · exact .inl a
      · exact .inr (.inl ⟨j, m, by omega, h1, h2, h3⟩)
theorem Pfx.al (hV : VR L rs) (h : Pfx rs S) {s : Wrd} (hs : s ∈ S) {x : Nat} (hx : x < 6) : Al (s ++ [ltr x]) ∧ Al s := by
  have hsl : (∀ c ∈ s, 97 ≤ c.toNat ∧ c.toNat < 103) ∧ s.length ≤ 2047 := by
    rcases (h.mem s).1 hs with rfl | ⟨j, m, h0, h1, h2, rfl⟩
    · exact ⟨fun c hc => by simp at hc, by simp⟩
    · have ha := validW_al (hV.v _ (getD_mem (d := ([], [])) h0)).1
      exact ⟨fun c hc => ha.mem c (List.mem_of_mem_take hc), by rw [List.length_take]; have := ha.1; omega⟩
  refine ⟨Al.mk' (by simp; omega) (Al.app hsl.1 fun c hc => ?_), Al.mk' (by omega) hsl.1⟩
  simp at hc
  rw [hc, ltr_toNat (by omega)]; omega
/-! ### the longest end that is a state -/
def LsI (S : List Wrd) (w : Wrd) (i : Nat) (z : Int) : Prop := (z = (S.length : Int) ∧ i ≤ w.length ∧ lsuf S (w.drop i) = lsuf S w) ∨ z = ((posN S (lsuf S w) : Nat) : Int)
theorem LsI.init (S : List Wrd) (w : Wrd) : LsI S w 0 (S.length : Int) := .inl ⟨rfl, Nat.zero_le _, rfl⟩
theorem LsI.left {w : Wrd} {z : Int} (h0 : [] ∈ S) (h : LsI S w i z) (hz : z = (S.length : Int)) : i ≤ w.length ∧ lsuf S (w.drop i) = lsuf S w := by
  rcases h with h | h
  · exact h.2
  · have := posN_lt (lsuf_mem h0 w); omega
theorem LsI.miss {w : Wrd} {z : Int} (h0 : [] ∈ S) (h : LsI S w i z) (hz : z = (S.length : Int)) (hm : w.drop i ∉ S) : LsI S w (i + 1) z := by
  obtain ⟨h1, h2⟩ := h.left h0 hz
  have hl : i < w.length := by
    rcases Nat.lt_or_ge i w.length with k | k
    · exact k
    · rw [List.drop_eq_nil_of_le k] at hm; exact absurd h0 hm
  refine .inl ⟨hz, hl, ?_⟩
  rw [← h2]
  rw [← List.getElem_cons_drop hl] at hm ⊢
  conv => rhs; unfold lsuf
  rw [if_neg hm]
theorem LsI.hit {w : Wrd} {z : Int} (h0 : [] ∈ S) (h : LsI S w i z) (hz : z = (S.length : Int)) (hm : w.drop i ∈ S) : LsI S w (i + 1) ((posN S (w.drop i) : Nat) : Int) := by
  obtain ⟨h1, h2⟩ := h.left h0 hz
  rw [lsuf_self hm] at h2
  exact .inr (by rw [h2])
theorem LsI.out {w : Wrd} {z : Int} (h0 : [] ∈ S) (h : LsI S w i z) (hz : ¬ (i : Int) ≤ w.length ∨ ¬ z = (S.length : Int)) : z = ((posN S (lsuf S w) : Nat) : Int) := by
  rcases h with h | h
  · omega
  · exact h
theorem refD_F {x : Nat} (hx : x < S.length) : (refD L rs S).fin.take (x + 1) = (refD L rs S).fin.take x ++ [(once rs (S.getD x [])).isNone] := by
  rw [take_snocD false _ x (by rw [refD_len]; omega)]
  congr 2
  simp only [refD]
  rw [getD_app_lt (by simpa using hx)]
  simp [List.getD_eq_getElem?_getD, hx]
theorem refD_N {x : Nat} (hx : x < S.length) : (refD L rs S).nx.take (x + 1) = (refD L rs S).nx.take x ++ [refR L rs S (S.getD x [])] := by
  rw [take_snocD [] _ x (by simp [refD]; omega), refD_row hx]
theorem refD_Fe : (refD L rs S).fin = (refD L rs S).fin.take S.length ++ [false] := by
  simp [refD, List.take_append]
theorem refD_Ne : (refD L rs S).nx = (refD L rs S).nx.take S.length ++ [List.replicate L.toNat (S.length : Int)] := by
  simp [refD, List.take_append]
theorem refD_nx : (refD L rs S).nx.length = S.length + 1 := by simp [refD]
end
end Go.Sx

set_option linter.unusedVariables false
set_option linter.unusedSimpArgs false
namespace Go.Sx
open Go.RowKit
theorem validW_mono {L : Int} {u : Wrd} (h : validW L u = true) (hL : L ≤ 6) : validW 6 u = true := al_valid (validW_al h)
theorem vr6 {L : Int} {rs : List Rul} (h : VR L rs) : VR 6 rs where
  l := by omega
  n := h.n
  v := fun r hr => ⟨validW_mono (h.v r hr).1 h.l.2, validW_mono (h.v r hr).2.1 h.l.2, (h.v r hr).2.2⟩
theorem tot_small {rs : List Rul} (h : ∀ k, k < rs.length → (rs.getD k ([], [])).1.length ≤ 6) : ∀ k, k ≤ rs.length → tot (lfs rs) k ≤ k * 6
  | 0, _ => Nat.le_refl _
  | k + 1, hk => by
    have h1 := tot_small h k (by omega)
    have h2 := h k (by omega)
    have : tot (lfs rs) (k + 1) = tot (lfs rs) k + (rs.getD k ([], [])).1.length := by show tot (lfs rs) k + _ = _; rw [lfs_get rs (by omega)]
    omega
end Go.Sx

set_option linter.unusedVariables false
set_option linter.unusedSimpArgs false
namespace Go.Sx
open Go.RowKit
/-! ### the reduced words, level by level -/
def rdb (rs : List Rul) (u : Wrd) : Bool := (once rs u).isNone
def chx (rs : List Rul) (u : Wrd) : Nat → List Wrd
  | 0 => []
  | x + 1 => chx rs u x ++ if rdb rs (u ++ [ltr x]) = true then [u ++ [ltr x]] else []
theorem chx_yes {rs : List Rul} {u : Wrd} {x : Nat} (h : rdb rs (u ++ [ltr x]) = true) : chx rs u (x + 1) = chx rs u x ++ [u ++ [ltr x]] := by simp [chx, h]
theorem chx_no {rs : List Rul} {u : Wrd} {x : Nat} (h : ¬ rdb rs (u ++ [ltr x]) = true) : chx rs u (x + 1) = chx rs u x := by simp [chx, h]
def rlv (rs : List Rul) (n : Nat) : Nat → List Wrd
  | 0 => [[]]
  | k + 1 => (rlv rs n k).flatMap fun u => chx rs u n
def cwl (rs : List Rul) (n : Nat) : Nat → List Wrd
  | 0 => []
  | k + 1 => cwl rs n k ++ rlv rs n k
section
variable {rs : List Rul} {n : Nat}
theorem cwl_next : ∀ k, cwl rs n (k + 1) = [] :: (cwl rs n k).flatMap fun u => chx rs u n
  | 0 => rfl
  | k + 1 => by
    show cwl rs n (k + 1) ++ rlv rs n (k + 1) = _
    conv => lhs; rw [cwl_next k]
    show _ = [] :: (cwl rs n k ++ rlv rs n k).flatMap _
    rw [List.flatMap_append]; rfl
theorem chx_mem {u v : Wrd} : ∀ x, v ∈ chx rs u x → ∃ y, y < x ∧ v = u ++ [ltr y] ∧ rdb rs v = true
  | 0, h => by cases h
  | x + 1, h => by
    by_cases hr : rdb rs (u ++ [ltr x]) = true
    · rw [chx_yes hr] at h
      rcases List.mem_append.1 h with k | k
      · obtain ⟨y, h1, h2⟩ := chx_mem x k
        exact ⟨y, by omega, h2⟩
      · rw [List.mem_singleton.1 k]; exact ⟨x, by omega, rfl, hr⟩
    · rw [chx_no hr] at h
      obtain ⟨y, h1, h2⟩ := chx_mem x h
      exact ⟨y, by omega, h2⟩
theorem mem_chx {u : Wrd} {y : Nat} (hr : rdb rs (u ++ [ltr y]) = true) : ∀ x, y < x → u ++ [ltr y] ∈ chx rs u x
  | 0, h => by omega
  | x + 1, h => by
    by_cases e : y = x
    · subst e; rw [chx_yes hr]; simp
    · exact List.mem_append_left _ (mem_chx hr x (by omega))
theorem chx_len (u : Wrd) : ∀ x, (chx rs u x).length ≤ x
  | 0 => Nat.le_refl _
  | x + 1 => by
    have := chx_len u x
    unfold chx
    rw [List.length_append]
    split <;> simp <;> omega
theorem rlv_mem : ∀ k {u : Wrd}, u ∈ rlv rs n k → u.length = k ∧ (n ≤ 6 → Lt u)
  | 0, u, h => by
    rw [List.mem_singleton.1 h]; exact ⟨rfl, fun _ c hc => by cases hc⟩
  | k + 1, u, h => by
    obtain ⟨v, h1, h2⟩ := List.mem_flatMap.1 h
    obtain ⟨y, h3, rfl, _⟩ := chx_mem n h2
    obtain ⟨h4, h5⟩ := rlv_mem k h1
    refine ⟨by simp [h4], fun hn => (h5 hn).app fun c hc => ?_⟩
    rw [List.mem_singleton.1 hc, ltr_toNat (by omega)]; omega
theorem cwl_mem : ∀ k {u : Wrd}, u ∈ cwl rs n k → u.length < k ∧ (n ≤ 6 → Lt u)
  | 0, u, h => by cases h
  | k + 1, u, h => by
    rcases List.mem_append.1 h with h | h
    · obtain ⟨h1, h2⟩ := cwl_mem k h; exact ⟨by omega, h2⟩
    · obtain ⟨h1, h2⟩ := rlv_mem k h; exact ⟨by omega, h2⟩
theorem rlv_stop {k : Nat} (h : rlv rs n k = []) : ∀ j, rlv rs n (k + j) = []
  | 0 => h
  | j + 1 => by show (rlv rs n (k + j)).flatMap _ = _; rw [rlv_stop h j]; rfl
theorem cwl_stop {k : Nat} (h : rlv rs n k = []) : ∀ j, cwl rs n (k + j) = cwl rs n k
  | 0 => rfl
  | j + 1 => by show cwl rs n (k + j) ++ rlv rs n (k + j) = _; rw [cwl_stop h j, rlv_stop h j, List.append_nil]
theorem cwl_pre (k : Nat) : ∀ j, cwl rs n k <+: cwl rs n (k + j)
  | 0 => List.prefix_refl _
  | j + 1 => (cwl_pre k j).trans (List.prefix_append _ _)
theorem cwl_pre' {k m : Nat} (h : k ≤ m) : cwl rs n k <+: cwl rs n m := by
  have := cwl_pre (rs := rs) (n := n) k (m - k)
  rwa [show k + (m - k) = m by omega] at this
theorem cwl_ge : ∀ k, (∀ j, j < k → rlv rs n j ≠ []) → k ≤ (cwl rs n k).length
  | 0, _ => Nat.zero_le _
  | k + 1, h => by
    have h1 := cwl_ge k (fun j hj => h j (by omega))
    have h2 := List.length_pos_iff.2 (h k (by omega))
    show _ ≤ (cwl rs n k ++ rlv rs n k).length
    rw [List.length_append]; omega
theorem rlv_ne {k : Nat} (h : rlv rs n k ≠ []) : ∀ j, j < k → rlv rs n j ≠ [] := fun j hj e => by
  have := rlv_stop e (k - j)
  rw [show j + (k - j) = k by omega] at this
  exact h this
/-- a list that is closed -/
theorem closed_cw {W : List Wrd} (h : W = [] :: W.flatMap fun u => chx rs u n) (hp : ∃ k, W <+: cwl rs n k) : ∃ m, rlv rs n m = [] ∧ W = cwl rs n m := by
  have key : ∀ m, cwl rs n m <+: W := by
    intro m
    induction m with
    | zero => exact List.nil_prefix
    | succ m ih =>
      rw [cwl_next, h, List.cons_prefix_cons]
      refine ⟨rfl, ?_⟩
      obtain ⟨t, ht⟩ := ih
      conv => rhs; rw [← ht, List.flatMap_append]
      exact List.prefix_append _ _
  have hex : ∃ m, rlv rs n m = [] := by
    apply Classical.byContradiction
    intro hc
    have h1 := cwl_ge (rs := rs) (n := n) (W.length + 1) (fun j _ e => hc ⟨j, e⟩)
    have h2 := (key (W.length + 1)).length_le
    omega
  obtain ⟨m, hm⟩ := hex
  refine ⟨m, hm, ?_⟩
  obtain ⟨k, hk⟩ := hp
  have h1 : W <+: cwl rs n m := by
    rcases Nat.le_total k m with h2 | h2
    · exact hk.trans (cwl_pre' h2)
    · have := cwl_stop hm (k - m)
      rw [show m + (k - m) = k by omega] at this
      rw [this] at hk; exact hk
  exact h1.eq_of_length (Nat.le_antisymm h1.length_le (key m).length_le)
/-! ### without the empty word -/
def drp (mon : Bool) (l : List Wrd) : List Wrd := l.filter fun u => !decide (u = []) || mon
theorem drp_app {mon : Bool} {a b : List Wrd} : drp mon (a ++ b) = drp mon a ++ drp mon b := List.filter_append a b
theorem drp_true (l : List Wrd) : drp true l = l := by simp [drp]
theorem drp_no {mon : Bool} {l : List Wrd} (h : ∀ u ∈ l, u ≠ []) : drp mon l = l := List.filter_eq_self.2 fun u hu => by simp [h u hu]
theorem flat_ne {l : List Wrd} : ∀ u ∈ l.flatMap (fun u => chx rs u n), u ≠ [] := fun u hu => by
  obtain ⟨v, _, h2⟩ := List.mem_flatMap.1 hu
  obtain ⟨y, _, rfl, _⟩ := chx_mem n h2
  simp
theorem drp_cw {mon : Bool} (k : Nat) : drp mon (cwl rs n (k + 1)) = if mon = true then cwl rs n (k + 1) else (cwl rs n (k + 1)).drop 1 := by
  cases mon with
  | true => rw [drp_true]; rfl
  | false =>
    rw [cwl_next]
    have e := drp_no (mon := false) (flat_ne (rs := rs) (n := n) (l := cwl rs n k))
    show drp false ([[]] ++ (cwl rs n k).flatMap fun u => chx rs u n) = _
    rw [drp_app, e]; rfl
theorem drp_len {mon : Bool} (k : Nat) : (cwl rs n k).length ≤ (drp mon (cwl rs n k)).length + 1 := by
  cases k with
  | zero => exact Nat.zero_le _
  | succ k =>
    rw [drp_cw]
    split
    · omega
    · rw [List.length_drop]; omega
theorem drp_le {mon : Bool} (l : List Wrd) : (drp mon l).length ≤ l.length := List.length_filter_le _ _
theorem drp_snoc {mon : Bool} {l : List Wrd} {u : Wrd} : drp mon (l ++ [u]) = drp mon l ++ if u ≠ [] ∨ mon = true then [u] else [] := by
  rw [drp_app]
  congr 1
  unfold drp
  by_cases h : u = []
  · subst h; cases mon <;> rfl
  · rw [List.filter_cons_of_pos (by simp [h]), if_pos (.inl h)]; rfl
def Many (rs : List Rul) (n : Nat) (mon : Bool) : Prop := ∃ k, 400 < (drp mon (cwl rs n k)).length
def Few (rs : List Rul) (n : Nat) (mon : Bool) (ws : List Wrd) : Prop := ∃ k, rlv rs n k = [] ∧ ws = drp mon (cwl rs n k) ∧ ws.length ≤ 400
theorem Few.not {mon : Bool} {ws : List Wrd} (h : Few rs n mon ws) : ¬ Many rs n mon := by
  rintro ⟨j, hj⟩
  obtain ⟨k, h1, rfl, h3⟩ := h
  have h4 : drp mon (cwl rs n j) <+: drp mon (cwl rs n k) := by
    rcases Nat.le_total j k with h2 | h2
    · exact (cwl_pre' h2).filter _
    · have := cwl_stop h1 (j - k)
      rw [show k + (j - k) = j by omega] at this
      rw [this]; exact List.prefix_refl _
  have := h4.length_le
  omega
theorem Few.uniq {mon : Bool} {ws vs : List Wrd} (h : Few rs n mon ws) (h' : Few rs n mon vs) : ws = vs := by
  obtain ⟨k, h1, rfl, _⟩ := h
  obtain ⟨j, h2, rfl, _⟩ := h'
  congr 1
  rcases Nat.le_total j k with h3 | h3
  · have := cwl_stop h2 (k - j)
    rwa [show j + (k - j) = k by omega] at this
  · have := cwl_stop h1 (j - k)
    rw [show k + (j - k) = j by omega] at this
    exact this.symm
theorem Few.mem {mon : Bool} {ws : List Wrd} (h : Few rs n mon ws) (hn : n ≤ 6) {u : Wrd} (hu : u ∈ ws) : Lt u := by
  obtain ⟨k, _, rfl, _⟩ := h
  exact (cwl_mem k (List.mem_filter.1 hu).1).2 hn
theorem Many.of {mon : Bool} (h : ∀ k, rlv rs n k ≠ []) : Many rs n mon := by
  refine ⟨402, ?_⟩
  have h1 := cwl_ge (rs := rs) (n := n) 402 (fun j _ => h j)
  have h2 := drp_len (rs := rs) (n := n) (mon := mon) 402
  omega
/-- beginnings of reduced words are reduced -/
theorem rdb_pre {u : Wrd} {c : UInt8} (h : rdb rs (u ++ [c]) = true) : rdb rs u = true := by
  unfold rdb at *
  rw [Option.isNone_iff_eq_none] at *
  refine once_none.2 fun i hi => ruleAt_none_iff.2 fun j hj hp => ?_
  refine ruleAt_none_iff.1 (once_none.1 h i (by simp; omega)) j hj ?_
  rw [List.drop_append_of_le_length (by omega)]
  exact hp.trans (List.prefix_append _ _)
theorem rlv_of {d : Dfa} (hd : VD d) (hn : d.L.toNat = n) : ∀ (m : Nat) (u : Wrd), u.length = m → Okw d u → rdb rs u = true → u ∈ rlv rs n m
  | 0, u, h, _, _ => by rw [List.length_eq_zero_iff.1 h]; exact List.mem_singleton.2 rfl
  | m + 1, u, h, ho, hr => by
    obtain ⟨v, c, rfl⟩ : ∃ v c, u = v ++ [c] := by
      have hne : u ≠ [] := fun e => by rw [e] at h; simp at h
      exact ⟨u.dropLast, u.getLast hne, (List.dropLast_concat_getLast hne).symm⟩
    have hc : okB d.L c = true := by have := ho.right; unfold Okw at this; simpa using this
    have hL := hd.L
    simp only [okB, decide_eq_true_eq] at hc
    obtain ⟨x, hx, rfl, e⟩ := ltr_of (c := c) (by omega)
    refine List.mem_flatMap.2 ⟨v, rlv_of hd hn m v (by simpa using h) ho.left (rdb_pre hr), mem_chx hr n (by omega)⟩
end
/-- the automaton of the reduced words -/
def RdA (rs : List Rul) (d : Dfa) : Prop := VD d ∧ ∀ l, Okw d l → finQ d (runI d d.s l) = rdb rs l
theorem IrrP.rda {L e : Int} {rs : List Rul} {d : Dfa} (h : IrrP L rs d e) (hE : errR L rs = 0) (ht : tot (lfs rs) rs.length ≤ 511) : e = 0 ∧ RdA rs d ∧ d.L = L := by
  rcases h with ⟨h1, _⟩ | ⟨_, h2, _⟩ | ⟨_, _, rfl, c, hc, hcL, rfl, hi⟩
  · exact absurd hE h1
  · omega
  · exact ⟨rfl, ⟨min_vd hc, fun l hl => (min_lng hc l hl).trans (hi l hl)⟩, hcL⟩
theorem RdA.many {rs : List Rul} {d : Dfa} {n : Nat} {mon : Bool} (h : RdA rs d) (hn : d.L.toNat = n) (hc : Cyc d) : Many rs n mon := by
  refine Many.of fun k => ?_
  obtain ⟨m, hm, l, h1, h2, h3⟩ := long_of hc (k + 1)
  rw [h.2 l h2] at h3
  have h4 := rlv_of h.1 hn m l h1 h2 h3
  exact rlv_ne (List.ne_nil_of_mem h4) k (by omega)
/-! ### the words in the order of a queue -/
structure Bfs (rs : List Rul) (n i : Nat) (W : List Wrd) : Prop where
  pre : ∃ k, k ≤ i + 1 ∧ W <+: cwl rs n k
  il : i ≤ W.length
  eq : W = [] :: (W.take i).flatMap fun u => chx rs u n
section
variable {rs : List Rul} {n i : Nat} {W : List Wrd}
theorem Bfs.init : Bfs rs n 0 [[]] := ⟨⟨1, by omega, List.prefix_refl _⟩, by simp, rfl⟩
theorem Bfs.step (h : Bfs rs n i W) (hi : i < W.length) : Bfs rs n (i + 1) (W ++ chx rs (W.getD i []) n) := by
  obtain ⟨k, hk, hp⟩ := h.pre
  have e : W ++ chx rs (W.getD i []) n = [] :: (W.take (i + 1)).flatMap fun u => chx rs u n := by
    rw [take_snocD [] _ i hi, List.flatMap_append]
    conv => lhs; lhs; rw [h.eq]
    show _ = [] :: (_ ++ (chx rs (W.getD i []) n ++ []))
    rw [List.append_nil]; rfl
  have e2 : (W ++ chx rs (W.getD i []) n).take (i + 1) = W.take (i + 1) := by rw [List.take_append_of_le_length (by omega)]
  refine ⟨⟨k + 1, by omega, ?_⟩, by rw [List.length_append]; omega, by rw [e2]; exact e⟩
  rw [e, cwl_next, List.cons_prefix_cons]
  refine ⟨rfl, ?_⟩
  obtain ⟨t, ht⟩ := (List.take_prefix (i + 1) W).trans hp
  conv => rhs; rw [← ht, List.flatMap_append]
  exact List.prefix_append _ _
theorem Bfs.word (h : Bfs rs n i W) {u : Wrd} (hu : u ∈ W) : u.length ≤ i := by
  obtain ⟨k, hk, hp⟩ := h.pre
  have := (cwl_mem k (hp.subset hu)).1
  omega
theorem Bfs.end (h : Bfs rs n i W) (hi : i = W.length) : ∃ m, rlv rs n m = [] ∧ W = cwl rs n m := by
  obtain ⟨k, _, hp⟩ := h.pre
  refine closed_cw ?_ ⟨k, hp⟩
  have := h.eq
  rwa [hi, List.take_length] at this
theorem Bfs.long (h : Bfs rs n i W) {mon : Bool} (hl : 401 < W.length) : Many rs n mon := by
  obtain ⟨k, _, hp⟩ := h.pre
  have h1 := hp.length_le
  have h2 := drp_len (rs := rs) (n := n) (mon := mon) k
  exact ⟨k, by omega⟩
end
/-- what elements answers -/
def ElP (rs : List Rul) (n : Nat) (mon : Bool) (ws : List Wrd) (ok : Bool) : Prop := (ok = true ∧ Few rs n mon ws) ∨ (ok = false ∧ Many rs n mon)
theorem Bfs.few {rs : List Rul} {n i : Nat} {W : List Wrd} {mon : Bool} (h : Bfs rs n i W) (hi : i = W.length) (ws : List Wrd) (hw : ws = if mon = true then W else W.drop 1) : ElP rs n mon ws (decide ((ws.length : Int) ≤ 400)) := by
  obtain ⟨m, h1, h2⟩ := h.end hi
  have e : ws = drp mon (cwl rs n m) := by
    cases m with
    | zero => cases h1
    | succ m => rw [drp_cw, ← h2, hw]
  by_cases hl : ws.length ≤ 400
  · exact .inl ⟨decide_eq_true (by omega), m, h1, e, hl⟩
  · exact .inr ⟨decide_eq_false (by omega), m, by rw [← e]; omega⟩
/-! ### the table -/
def nmK (ws : List Wrd) : Nat → List (Wrd × Int)
  | 0 => []
  | k + 1 => mset (nmK ws k) (ws.getD k []) (k : Int)
def celV (rs : List Rul) (ws : List Wrd) (u v : Wrd) : Int := (mget (nmK ws ws.length) (redV rs (u ++ v))).getD 0
def celE (rs : List Rul) (u v : Wrd) : Int := if 2048 < u.length + v.length then 3 else redE rs (u ++ v)
def rowP (rs : List Rul) (ws : List Wrd) (u : Wrd) : List Int := ws.map (celV rs ws u)
def tabP (rs : List Rul) (ws : List Wrd) : List (List Int) := ws.map (rowP rs ws)
def RowOk (rs : List Rul) (ws : List Wrd) (u : Wrd) (k : Nat) : Prop := ∀ j, j < k → celE rs u (ws.getD j []) = 0
def TabOk (rs : List Rul) (ws : List Wrd) (k : Nat) : Prop := ∀ i, i < k → RowOk rs ws (ws.getD i []) ws.length
def TabP (rs : List Rul) (ws : List Wrd) (e : Int) (vs : List Wrd) (t : List (List Int)) : Prop :=
  (TabOk rs ws ws.length ∧ e = 0 ∧ vs = ws ∧ t = tabP rs ws) ∨ (¬ TabOk rs ws ws.length ∧ e = 3 ∧ vs = [] ∧ t = [])
theorem TabP.uniq {rs : List Rul} {ws : List Wrd} {e e' : Int} {vs vs' : List Wrd} {t t' : List (List Int)} (h : TabP rs ws e vs t) (h' : TabP rs ws e' vs' t') : e = e' ∧ vs = vs' ∧ t = t' := by
  rcases h with ⟨h1, rfl, rfl, rfl⟩ | ⟨h1, rfl, rfl, rfl⟩ <;> rcases h' with ⟨k1, rfl, rfl, rfl⟩ | ⟨k1, rfl, rfl, rfl⟩
  · exact ⟨rfl, rfl, rfl⟩
  · exact absurd h1 k1
  · exact absurd k1 h1
  · exact ⟨rfl, rfl, rfl⟩
theorem TabP.bad {rs : List Rul} {ws : List Wrd} {i j : Nat} (hi : i < ws.length) (hj : j < ws.length) (h : celE rs (ws.getD i []) (ws.getD j []) ≠ 0) : TabP rs ws 3 [] [] := .inr ⟨fun k => h (k i hi j hj), rfl, rfl, rfl⟩
theorem celE_long {rs : List Rul} {u v : Wrd} (h : 2048 < u.length + v.length) : celE rs u v = 3 := if_pos h
theorem celE_red {rs : List Rul} {u v : Wrd} (h : ¬ 2048 < u.length + v.length) : celE rs u v = redE rs (u ++ v) := if_neg h
theorem redE_3 {rs : List Rul} {u : Wrd} (h : redE rs u ≠ 0) : redE rs u = 3 := by
  rcases red_cases rs u with ⟨v, _, _, h3⟩ | ⟨_, _, h3⟩
  · exact absurd h3 h
  · exact h3
theorem app_al {u v : Wrd} (hu : Lt u) (hv : Lt v) (h : ¬ 2048 < u.length + v.length) : Al (u ++ v) := (hu.app hv).al (by rw [List.length_append]; omega)
/-- what Table answers, of few rules that are valid -/
def TblP (L : Int) (rs : List Rul) (mon : Bool) (e : Int) (vs : List Wrd) (t : List (List Int)) : Prop :=
  ((mon = false ∧ ∃ r ∈ rs, r.2 = []) ∧ e = 6 ∧ vs = [] ∧ t = []) ∨
  (¬ (mon = false ∧ ∃ r ∈ rs, r.2 = []) ∧ (cfR rs (crA rs)).2.2 ≠ 0 ∧ e = (cfR rs (crA rs)).2.2 ∧ vs = [] ∧ t = []) ∨
  (¬ (mon = false ∧ ∃ r ∈ rs, r.2 = []) ∧ (cfR rs (crA rs)).2.2 = 0 ∧ (cfR rs (crA rs)).2.1 = false ∧ e = 6 ∧ vs = [] ∧ t = []) ∨
  (¬ (mon = false ∧ ∃ r ∈ rs, r.2 = []) ∧ (cfR rs (crA rs)).2.2 = 0 ∧ (cfR rs (crA rs)).2.1 = true ∧ Many rs L.toNat mon ∧ e = 3 ∧ vs = [] ∧ t = []) ∨
  (¬ (mon = false ∧ ∃ r ∈ rs, r.2 = []) ∧ (cfR rs (crA rs)).2.2 = 0 ∧ (cfR rs (crA rs)).2.1 = true ∧ ∃ ws, Few rs L.toNat mon ws ∧ TabP rs ws e vs t)
theorem TblP.uniq {L : Int} {rs : List Rul} {mon : Bool} {e e' : Int} {vs vs' : List Wrd} {t t' : List (List Int)} (h : TblP L rs mon e vs t) (h' : TblP L rs mon e' vs' t') : e = e' ∧ vs = vs' ∧ t = t' := by
  rcases h with ⟨h1, rfl, rfl, rfl⟩ | ⟨h1, h2, rfl, rfl, rfl⟩ | ⟨h1, h2, h3, rfl, rfl, rfl⟩ | ⟨h1, h2, h3, h4, rfl, rfl, rfl⟩ | ⟨h1, h2, h3, ws, h4, h5⟩ <;>
  rcases h' with ⟨k1, rfl, rfl, rfl⟩ | ⟨k1, k2, rfl, rfl, rfl⟩ | ⟨k1, k2, k3, rfl, rfl, rfl⟩ | ⟨k1, k2, k3, k4, rfl, rfl, rfl⟩ | ⟨k1, k2, k3, xs, k4, k5⟩
  all_goals first
    | exact ⟨rfl, rfl, rfl⟩
    | exact absurd h1 k1
    | exact absurd k1 h1
    | exact absurd h2 k2
    | exact absurd k2 h2
    | (rw [h3] at k3; cases k3; done)
    | exact absurd h4 k4.not
    | exact absurd k4 h4.not
    | (have e := h4.uniq k4; subst e; exact h5.uniq k5)
end Go.Sx

set_option linter.unusedVariables false
set_option linter.unusedSimpArgs false
namespace Go.Sx
open Go.RowKit
/-! ### a slice that is only read from now on -/
def view (v : Value) (sz n : Nat) (cs : List Value) : Asn where
  holds w F := Rd F w v sz n cs ∧ ∀ b, F b → b < w.heap.size
  loc := by
    rintro w w' F ⟨h, hl⟩ hb
    refine ⟨h.mono (fun b hF _ => ⟨hF, hb b hF⟩), fun b hF => ?_⟩
    have h1 := hb b hF
    rw [Array.getElem?_eq_getElem (hl b hF)] at h1
    exact (Array.getElem?_eq_some_iff.1 h1).1
  lt := by
    rintro w F ⟨_, hl⟩ b hb
    exact hl b hb
theorem addr_add2 (a : Addr) (m k : Nat) : (a.add m).add k = a.add (m + k) := by
  unfold Addr.add; repeat' split
  all_goals first | rfl | omega | (simp; omega) | (simp_all; done) | (congr 1; omega)
theorem row_view {w : World} {F : Nat → Prop} {v : Value} {E : TypeId} {n : Nat} {cs : List Value} (m : Nat) (h : (row v E 1 n cs).holds w F) (hm : m ≤ n) : (view (slFr v 1 m) 1 (n - m) (cs.drop m)).holds w F := by
  refine ⟨?_, fun b hb => (row v E 1 n cs).lt w F h b hb⟩
  have hr := row_rd h
  have hcut : ∃ ao c, v = .slice ao n c ∧ n ≤ c := by
    rcases h.1.2 with ⟨rfl, rfl⟩ | ⟨gb, cp, cur, rfl, _, _, hnc, _⟩
    · exact ⟨none, 0, rfl, Nat.le_refl _⟩
    · exact ⟨_, cp, rfl, hnc⟩
  obtain ⟨ao, c, hv, hnc⟩ := hcut
  obtain ⟨oa, cap, h1, h2, h3, h4, h5⟩ := hr
  rw [hv] at h1
  have e1 : ao = oa := by cases h1; rfl
  have e2 : c = cap := by cases h1; rfl
  subst e1; subst e2; subst hv
  refine ⟨_, _, rfl, by omega, by rw [List.length_drop]; omega, fun hp _ => ?_, fun a j u ha hj => ?_⟩
  · have := h4 (by omega) (by omega)
    split
    · exact this
    · simpa using this
  · rw [List.getElem?_drop] at hj
    have hlt := (List.getElem?_eq_some_iff.1 hj).1
    rw [if_neg (by omega)] at ha
    cases ao with
    | none => cases ha
    | some a0 =>
      simp only [Option.map_some, Option.some.injEq] at ha
      subst ha
      obtain ⟨k1, k2⟩ := h5 a0 (m + j) u rfl hj
      rw [Nat.mul_one, addr_add2]
      refine ⟨?_, k2⟩
      have hb : (a0.add m).block = a0.block := by unfold Addr.add; split <;> rfl
      rw [hb]; exact k1
section
variable {C : Cx} {sl : List (Nat × Value)} {own : List Asn} {K : Act → World → Prop}
theorem AK.viewFr (i m : Nat) {v : Value} {E : TypeId} {n : Nat} {cs : List Value} (hi : own[i]? = some (row v E 1 n cs)) (hm : m ≤ n) (h : AK C ⟨sl, own.set i (view (slFr v 1 m) 1 (n - m) (cs.drop m))⟩ K) : AK C ⟨sl, own⟩ K :=
  fun a w hs => h a w ⟨hs.size, hs.defers, hs.slot, hs.world.elem i hi (fun F hA => row_view m hA hm)⟩
theorem row_view0 {w : World} {F : Nat → Prop} {v : Value} {E : TypeId} {n : Nat} {cs : List Value} (h : (row v E 1 n cs).holds w F) : (view v 1 n cs).holds w F := ⟨row_rd h, fun b hb => (row v E 1 n cs).lt w F h b hb⟩
theorem AK.view0 (i : Nat) {v : Value} {E : TypeId} {n : Nat} {cs : List Value} (hi : own[i]? = some (row v E 1 n cs)) (h : AK C ⟨sl, own.set i (view v 1 n cs)⟩ K) : AK C ⟨sl, own⟩ K :=
  fun a w hs => h a w ⟨hs.size, hs.defers, hs.slot, hs.world.elem i hi (fun F hA => row_view0 hA)⟩
theorem RdS.view {v : Value} {sz n : Nat} {cs : List Value} (i : Nat) (hi : own[i]? = some (view v sz n cs)) : RdS C own v sz n cs := fun w hw => by
  obtain ⟨_, Fs, hh, _⟩ := hw
  exact (hh.at_ i _ hi).1.mono fun b _ _ => ⟨trivial, rfl⟩
theorem RdL.view {α : Type} {f : α → Value} {w : World} {v : Value} {xs : List α} (i : Nat) (hw : HW C own w) (hi : own[i]? = some (Go.Sx.view v 1 xs.length (xs.map f))) : RdL (fun _ => False) f w v xs :=
  (RdS.view (C := C) i hi w hw).mono fun b _ _ => ⟨id, rfl⟩
theorem HW.viewNil {w : World} (h : HW C own w) : HW C (own ++ [view (.slice none 0 0) 1 0 []]) w := by
  have h1 := (h.ghost 0 1)
  have := HW.elem (own := own ++ [row (.slice none 0 0) 0 1 0 []]) own.length (A := row (.slice none 0 0) 0 1 0 []) (A' := view (.slice none 0 0) 1 0 []) (by simp) (fun F hA => row_view0 hA) h1
  simpa using this
end
theorem run_lt {rs : List Rul} {d : Dfa} {n k : Nat} (h : RdA rs d) (hn : d.L.toNat = n) {u : Wrd} (hu : u ∈ cwl rs n k) : Okw d u := by
  have hL := h.1.L
  induction k generalizing u with
  | zero => cases hu
  | succ k ih =>
    rw [cwl_next] at hu
    rcases List.mem_cons.1 hu with rfl | hu
    · rfl
    · obtain ⟨v, h1, h2⟩ := List.mem_flatMap.1 hu
      obtain ⟨y, h3, rfl, _⟩ := chx_mem n h2
      exact okw_snoc h.1 (ih h1) (by omega)
section
variable {rs : List Rul} {d : Dfa} {n i : Nat} {W : List Wrd}
theorem Bfs.okw (h : Bfs rs n i W) (hA : RdA rs d) (hn : d.L.toNat = n) {u : Wrd} (hu : u ∈ W) : Okw d u := by
  obtain ⟨k, _, hp⟩ := h.pre
  exact run_lt hA hn (hp.subset hu)
theorem Bfs.fin (h : Bfs rs n i W) (hA : RdA rs d) (hn : d.L.toNat = n) {u : Wrd} (hu : u ∈ W) {x : Nat} (hx : x < n) : finQ d (stepQ d (runI d d.s u) x) = rdb rs (u ++ [ltr x]) := by
  have hL := hA.1.L
  have ho := h.okw hA hn hu
  rw [← hA.2 _ (okw_snoc hA.1 ho (show (x : Int) < d.L by omega)), runI_snoc1 d _ _ (by omega)]
theorem Bfs.inr (h : Bfs rs n i W) (hA : RdA rs d) (hn : d.L.toNat = n) {u : Wrd} (hu : u ∈ W) : InR d (runI d d.s u) := runI_inr hA.1 u d.s hA.1.s (h.okw hA hn hu)
end
def rns (d : Dfa) (W : List Wrd) : List Int := W.map (runI d d.s)
theorem rns_len (d : Dfa) (W : List Wrd) : (rns d W).length = W.length := by simp [rns]
theorem rns_get {d : Dfa} {W : List Wrd} {j : Nat} (h : j < W.length) : (rns d W).getD j 0 = runI d d.s (W.getD j []) := by
  simp [rns, List.getD_eq_getElem?_getD, h]
theorem rns_app (d : Dfa) (V W : List Wrd) : rns d (V ++ W) = rns d V ++ rns d W := by simp [rns]
theorem map_snoc {α : Type} (f : α → Value) (l : List α) (a : α) : (l ++ [a]).map f = l.map f ++ [f a] := by simp
theorem len_snoc {α : Type} (l : List α) (a : α) : (l ++ [a]).length = l.length + 1 := by simp
theorem rns_snoc (d : Dfa) (l : List Wrd) (a : Wrd) : (rns d (l ++ [a])).map (Value.int .i64) = (rns d l).map (Value.int .i64) ++ [.int .i64 (runI d d.s a)] := by rw [rns_app, List.map_append]; rfl
theorem slFr_is {v : Value} (h : IsSl v) : IsSl (slFr v 1 1) := by
  obtain ⟨a, n, c, rfl⟩ := h
  exact ⟨_, _, _, rfl⟩
theorem Bfs.pos {rs : List Rul} {n i : Nat} {W : List Wrd} (h : Bfs rs n i W) : 1 ≤ W.length := by
  rw [h.eq]; simp
end Go.Sx

set_option linter.unusedVariables false
set_option linter.unusedSimpArgs false
namespace Go.Sx
open Go.RowKit
def rowK (rs : List Rul) (ws : List Wrd) (u : Wrd) (j : Nat) : List Int := (rowP rs ws u).take j ++ List.replicate (ws.length - j) 0
theorem rowP_len (rs : List Rul) (ws : List Wrd) (u : Wrd) : (rowP rs ws u).length = ws.length := by simp [rowP]
theorem rowP_get {rs : List Rul} {ws : List Wrd} {u : Wrd} {j : Nat} (h : j < ws.length) : (rowP rs ws u).getD j 0 = celV rs ws u (ws.getD j []) := by
  simp [rowP, List.getD_eq_getElem?_getD, h]
theorem rowK_set {rs : List Rul} {ws : List Wrd} {u : Wrd} {j : Nat} (h : j < ws.length) : ((rowK rs ws u j).map (Value.int .i64)).set j (.int .i64 (celV rs ws u (ws.getD j []))) = (rowK rs ws u (j + 1)).map (Value.int .i64) := by
  unfold rowK
  rw [take_snocD 0 (rowP rs ws u) j (by rw [rowP_len]; exact h), rowP_get h]
  exact fill_set (Value.int .i64) _ 0 _ ws.length j (by rw [List.length_take, rowP_len]; omega) h
theorem rowK_full (rs : List Rul) (ws : List Wrd) (u : Wrd) : rowK rs ws u ws.length = rowP rs ws u := by
  unfold rowK
  rw [Nat.sub_self, List.replicate_zero, List.append_nil, List.take_of_length_le (by rw [rowP_len]; exact Nat.le_refl _)]
theorem fillV {l : List Value} {z r : Value} {n i : Nat} (hl : l.length = i) (h : i < n) : (l ++ List.replicate (n - i) z).set i r = (l ++ [r]) ++ List.replicate (n - (i + 1)) z := by
  subst hl
  have := fill_set (id : Value → Value) l z r n l.length rfl h
  simpa using this
theorem fillV_get {l : List Value} {r : Value} {m : List Value} {i : Nat} (hl : l.length = i) : ((l ++ [r]) ++ m).getD i undef = r := by
  subst hl; simp [List.getD_eq_getElem?_getD]
theorem tabP_len (rs : List Rul) (ws : List Wrd) : (tabP rs ws).length = ws.length := by simp [tabP]
theorem tabP_snoc {rs : List Rul} {ws : List Wrd} {i : Nat} (h : i < ws.length) : (tabP rs ws).take (i + 1) = (tabP rs ws).take i ++ [rowP rs ws (ws.getD i [])] := by
  rw [take_snocD [] _ i (by rw [tabP_len]; exact h)]
  congr 2
  simp [tabP, List.getD_eq_getElem?_getD, h]
theorem row_next {rs : List Rul} {ws : List Wrd} {u : Wrd} {j : Nat} (h : RowOk rs ws u j) (hc : celE rs u (ws.getD j []) = 0) : RowOk rs ws u (j + 1) := ext_lt h hc
theorem tab_next {rs : List Rul} {ws : List Wrd} {i : Nat} (h : TabOk rs ws i) (hc : RowOk rs ws (ws.getD i []) ws.length) : TabOk rs ws (i + 1) := ext_lt h hc
theorem cwl_in {rs : List Rul} {n : Nat} {u : Wrd} : ∀ k, u ∈ cwl rs n k → u.length < k ∧ u ∈ rlv rs n u.length
  | 0, h => by cases h
  | k + 1, h => by
    rcases List.mem_append.1 h with h | h
    · obtain ⟨h1, h2⟩ := cwl_in k h; exact ⟨by omega, h2⟩
    · have := (rlv_mem k h).1
      exact ⟨by omega, by rw [this]; exact h⟩
theorem Few.len {rs : List Rul} {n : Nat} {mon : Bool} {ws : List Wrd} (h : Few rs n mon ws) {u : Wrd} (hu : u ∈ ws) : u.length ≤ 400 := by
  obtain ⟨k, h1, rfl, h3⟩ := h
  obtain ⟨h4, h5⟩ := cwl_in k (List.mem_filter.1 hu).1
  have h6 := rlv_ne (List.ne_nil_of_mem h5)
  have h7 := cwl_ge (rs := rs) (n := n) (u.length + 1) (fun j hj => by
    by_cases e : j = u.length
    · rw [e]; exact List.ne_nil_of_mem h5
    · exact h6 j (by omega))
  have h8 := (cwl_pre' (rs := rs) (n := n) (show u.length + 1 ≤ k by omega)).length_le
  have h9 := drp_len (rs := rs) (n := n) (mon := mon) k
  omega
theorem RdLL.of {α : Type} {C : Cx} {on : List Asn} {w : World} {f : α → Value} {v : Value} {E E' : TypeId} {rs : List Value} {xss : List (List α)} (i j : Nat) (hw : HW C on w) (hl : rs.length = xss.length) (hi : on[i]? = some (row v E 1 xss.length rs)) (hj : on[j]? = some (bigA (matG f E' rs xss))) : RdLL (fun _ => False) f w v xss := RdLL.own i j hw hl hi hj
theorem view_nil {w : World} {F : Nat → Prop} (hl : ∀ b, F b → b < w.heap.size) : (view (.slice none 0 0) 1 0 []).holds w F :=
  ⟨⟨none, 0, rfl, by simp [maxLen], rfl, fun h => by omega, fun a j u ha => by cases ha⟩, hl⟩
theorem view_to {rs : List Rul} {ws vs : List Wrd} {e : Int} {t : List (List Int)} {q q2 : Value} (hT : TabP rs ws e vs t) (h0 : e = 0 → q2 = q) (hn : e ≠ 0 → q2 = .slice none 0 0) {w : World} {F : Nat → Prop} (hA : (view q 1 ws.length (ws.map sv)).holds w F) : (view q2 1 vs.length (vs.map sv)).holds w F := by
  rcases hT with ⟨_, he, rfl, _⟩ | ⟨_, he, rfl, _⟩
  · rw [h0 he]; exact hA
  · rw [hn (by rw [he]; decide)]; exact view_nil hA.2
theorem RdS.nil {C : Cx} {own : List Asn} : RdS C own (.slice none 0 0) 1 0 [] := fun w _ => ⟨none, 0, rfl, by simp [maxLen], rfl, fun h => by omega, fun a j u ha => by cases ha⟩
theorem isSl_q2 {e : Int} {q q2 : Value} (hq : IsSl q) (h0 : e = 0 → q2 = q) (hn : e ≠ 0 → q2 = .slice none 0 0) : IsSl q2 := by
  by_cases h : e = 0
  · rw [h0 h]; exact hq
  · rw [hn h]; exact nilSl
/-- the rules whose right side is empty -/
def NoE (rs : List Rul) (k : Nat) : Prop := ∀ j, j < k → (rs.getD j ([], [])).2 ≠ []
theorem noE_all {rs : List Rul} {mon : Bool} {k : Nat} (h : mon = false → NoE rs k) (hk : k = rs.length) : ¬ (mon = false ∧ ∃ r ∈ rs, r.2 = []) := by
  rintro ⟨hm, r, hr, he⟩
  obtain ⟨j, hj, e⟩ := mem_getD ([], []) hr
  exact h hm j (by omega) (by rw [e]; exact he)
theorem noE_ex {rs : List Rul} {mon : Bool} {k : Nat} (hk : k < rs.length) (hm : mon = false) (h : (rs.getD k ([], [])).2 = []) : mon = false ∧ ∃ r ∈ rs, r.2 = [] := ⟨hm, _, getD_mem hk, h⟩
theorem flat_take {rs : List Rul} {n k : Nat} {l : List Wrd} (h : k < l.length) : (l.take k).flatMap (fun u => chx rs u n) ++ chx rs (l.getD k []) n = (l.take (k + 1)).flatMap fun u => chx rs u n := by
  rw [take_snocD [] l k h, List.flatMap_append]
  show _ = _ ++ (chx rs (l.getD k []) n ++ [])
  rw [List.append_nil]
theorem drp_take {mon : Bool} {c l : List Wrd} {k : Nat} (h : k < l.length) : drp mon (c ++ l.take (k + 1)) = drp mon (c ++ l.take k) ++ if l.getD k [] ≠ [] ∨ mon = true then [l.getD k []] else [] := by
  rw [take_snocD [] l k h, ← List.append_assoc, drp_snoc]
theorem flat_len {rs : List Rul} {n : Nat} : ∀ l : List Wrd, (l.flatMap fun u => chx rs u n).length ≤ n * l.length
  | [] => by simp
  | a :: l => by
    have h1 := flat_len (rs := rs) (n := n) l
    have h2 := chx_len (rs := rs) a n
    rw [List.flatMap_cons, List.length_append, List.length_cons, Nat.mul_add, Nat.mul_one]
    omega
theorem rlv_le {rs : List Rul} {n : Nat} (hn : n ≤ 6) : ∀ k, (rlv rs n k).length ≤ 6 * (cwl rs n k).length + 1
  | 0 => by simp [rlv, cwl]
  | k + 1 => by
    have h1 := flat_len (rs := rs) (n := n) (rlv rs n k)
    have h2 : n * (rlv rs n k).length ≤ 6 * (rlv rs n k).length := Nat.mul_le_mul_right _ hn
    show ((rlv rs n k).flatMap fun u => chx rs u n).length ≤ 6 * (cwl rs n k ++ rlv rs n k).length + 1
    rw [List.length_append]
    omega
theorem fl_le {rs : List Rul} {n : Nat} (hn : n ≤ 6) (l : List Wrd) (k : Nat) : ((l.take k).flatMap fun u => chx rs u n).length ≤ 6 * l.length := by
  have h1 := flat_len (rs := rs) (n := n) (l.take k)
  have h2 : n * (l.take k).length ≤ 6 * (l.take k).length := Nat.mul_le_mul_right _ hn
  have h3 := List.length_take_le k l
  have h4 : (l.take k).length ≤ l.length := by rw [List.length_take]; omega
  omega
theorem dl_le {mon : Bool} (c l : List Wrd) (k : Nat) : (drp mon (c ++ l.take k)).length ≤ (drp mon c).length + l.length := by
  have h1 := drp_le (mon := mon) (l.take k)
  have h4 : (l.take k).length ≤ l.length := by rw [List.length_take]; omega
  rw [drp_app, List.length_append]
  omega
end Go.Sx
