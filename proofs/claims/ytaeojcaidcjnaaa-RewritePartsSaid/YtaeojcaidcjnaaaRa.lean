import Derived.Test.YtaeojcaidcjnaaaDP
import Derived.Lib.Bytealg
set_option linter.unusedVariables false
set_option linter.unusedSimpArgs false
namespace Go.Sx
open Go.RowKit
/-! ### rules -/
abbrev Rul := List UInt8 × List UInt8
def rcs (r : Rul) : List Value := [sv r.1, sv r.2]
def rlc (rs : List Rul) : List Value := rs.flatMap rcs
def rv (r : Rul) : Value := .agg #[sv r.1, sv r.2]
theorem rlc_length (rs : List Rul) : (rlc rs).length = rs.length * 2 := by
  induction rs with
  | nil => rfl
  | cons p ps ih => simp only [rlc, rcs, List.flatMap_cons, List.length_append, List.length_cons, List.length_nil] at ih ⊢; omega
theorem rlc_append (a b : List Rul) : rlc (a ++ b) = rlc a ++ rlc b := by simp [rlc]
theorem rlc_at (ps : List Rul) (j : Nat) (h : j < ps.length) : ((rlc ps).drop (j * 2)).take 2 = rcs (ps.getD j ([], [])) := by
  have h1 : ps = ps.take j ++ ps.getD j ([], []) :: ps.drop (j + 1) := by
    rw [List.getD_eq_getElem?_getD, List.getElem?_eq_getElem h, Option.getD_some, List.getElem_cons_drop, List.take_append_drop]
  have h2 : (rlc (ps.take j)).length = j * 2 := by rw [rlc_length, List.length_take]; omega
  conv => lhs; rw [h1]
  rw [rlc_append, ← h2, List.drop_left]
  simp [rlc, rcs]
def RdR (F : Nat → Prop) (w : World) (v : Value) (rs : List Rul) : Prop := Rd (fun b => ¬ F b) w v 2 rs.length (rlc rs)
theorem RdR.at {C : Cx} {on : List Asn} {w : World} {v : Value} {rs : List Rul} (h : RdR C.S C.W0 v rs) (hw : HW C on w) : RdR (fun _ => False) w v rs := Rd.keep h hw.frame (fun _ _ _ => id)
theorem RdR.own {C : Cx} {on : List Asn} {w : World} {v : Value} {E : TypeId} {rs : List Rul} (i : Nat) (hw : HW C on w) (hi : on[i]? = some (row v E 2 rs.length (rlc rs))) : RdR (fun _ => False) w v rs :=
  (RdS.own (C := C) i hi w hw).mono fun b _ _ => ⟨id, rfl⟩
theorem RdR.len {F : Nat → Prop} {w : World} {v : Value} {rs : List Rul} (h : RdR F w v rs) : rs.length ≤ 9223372036854775807 := by
  have := Rd.le h; exact this
theorem Yl.loadRu {C : Cx} {sl : List (Nat × Value)} {own : List Asn} {dst : Option Nat} {ty : TypeId} {pos : String} {aft : Array Edge} {g : Option (Nat × Bool)} {x : Operand} {t : TypeId} {v : Value} {n j : Nat} {ps : List Rul} (ht : AggT C.P t 2) (hx : opv ⟨sl, own⟩ x = some (.pointer (some ((slA v).add (j * 2)))))
    (hr : RdS C own v 2 n (rlc ps)) (hj : j < ps.length) : Yl C ⟨sl, own⟩ ⟨dst, .load t x, ty, pos, aft, g⟩ (rv (ps.getD j ([], []))) := fun a w hs => by
  have hn : n = ps.length := by obtain ⟨_, _, _, _, h, _⟩ := hr w hs.world; rw [rlc_length] at h; omega
  have := Yl.loadG (dst := dst) (ty := ty) (pos := pos) (aft := aft) (g := g) ht hx hr (by omega) a w hs
  rw [rlc_at ps j hj] at this
  exact this
/-! ### which rules are valid -/
def badR (L : Int) (r : Rul) : Bool := !validW L r.1 || !validW L r.2 || decide (CmpV r.1 r.2 ≤ 0)
def errR (L : Int) (rs : List Rul) : Int := if ¬ (1 ≤ L ∧ L ≤ 6) then 1 else if rs.length > 2000 then 3 else if rs.any (badR L) then 6 else 0
/-- valid rules -/
structure VR (L : Int) (rs : List Rul) : Prop where
  l : 1 ≤ L ∧ L ≤ 6
  n : rs.length ≤ 2000
  v : ∀ r ∈ rs, validW L r.1 = true ∧ validW L r.2 = true ∧ slx r.2 r.1 = true
theorem bl_tot : ∀ (u v : List UInt8), u.length = v.length → Op.bytesLess u v = true ∨ u = v ∨ Op.bytesLess v u = true
  | [], [], _ => .inr (.inl rfl)
  | [], _ :: _, h => by simp at h
  | _ :: _, [], h => by simp at h
  | a :: u, b :: v, h => by
    by_cases h1 : a < b
    · exact .inl (by simp [Op.bytesLess, h1])
    · by_cases h2 : b < a
      · exact .inr (.inr (by simp [Op.bytesLess, h2]))
      · have h3 : a = b := by
          have k1 : ¬ a.toNat < b.toNat := fun k => h1 (UInt8.lt_iff_toNat_lt.2 k)
          have k2 : ¬ b.toNat < a.toNat := fun k => h2 (UInt8.lt_iff_toNat_lt.2 k)
          exact UInt8.toNat_inj.1 (by omega)
        subst h3
        rcases bl_tot u v (by simpa using h) with k | k | k
        · exact .inl (by simp [Op.bytesLess, k])
        · exact .inr (.inl (by rw [k]))
        · exact .inr (.inr (by simp [Op.bytesLess, k]))
theorem slx_tot (u v : List UInt8) : slx u v = true ∨ u = v ∨ slx v u = true := by
  rw [slx_iff, slx_iff]
  rcases Nat.lt_trichotomy u.length v.length with h | h | h
  · exact .inl (.inl h)
  · rcases bl_tot u v h with k | k | k
    · exact .inl (.inr ⟨h, k⟩)
    · exact .inr (.inl k)
    · exact .inr (.inr (.inr ⟨h.symm, k⟩))
  · exact .inr (.inr (.inl h))
theorem CmpV_pos {u v : List UInt8} : ¬ CmpV u v ≤ 0 ↔ slx v u = true := by
  rw [CmpV_le]
  constructor
  · intro h
    rcases slx_tot v u with k | k | k
    · exact k
    · exact absurd (.inr k.symm) h
    · exact absurd (.inl k) h
  · rintro h (k | rfl)
    · have := slx_trans h k; rw [slx_irr] at this; cases this
    · rw [slx_irr] at h; cases h
theorem badR_iff {L : Int} {r : Rul} : badR L r = false ↔ validW L r.1 = true ∧ validW L r.2 = true ∧ slx r.2 r.1 = true := by
  unfold badR
  rw [Bool.or_eq_false_iff, Bool.or_eq_false_iff, Bool.not_eq_false', Bool.not_eq_false', decide_eq_false_iff_not, CmpV_pos, and_assoc]
theorem errR_iff {L : Int} {rs : List Rul} : errR L rs = 0 ↔ VR L rs := by
  unfold errR
  by_cases h1 : 1 ≤ L ∧ L ≤ 6
  · rw [if_neg (fun h => h h1)]
    by_cases h2 : rs.length > 2000
    · rw [if_pos h2]; exact ⟨fun h => (by cases h), fun h => (by have := h.n; omega)⟩
    · rw [if_neg h2]
      by_cases h3 : rs.any (badR L) = true
      · rw [if_pos h3]
        refine ⟨fun h => (by cases h), fun h => ?_⟩
        obtain ⟨r, hr, hb⟩ := List.any_eq_true.1 h3
        rw [badR_iff.2 (h.v r hr)] at hb; cases hb
      · rw [if_neg h3]
        refine ⟨fun _ => ⟨h1, by omega, fun r hr => badR_iff.1 ?_⟩, fun _ => rfl⟩
        by_cases hb : badR L r = true
        · exact absurd (List.any_eq_true.2 ⟨r, hr, hb⟩) h3
        · simpa using hb
  · rw [if_pos h1]; exact ⟨fun h => (by cases h), fun h => absurd h.l h1⟩
theorem errR_rng (L : Int) (rs : List Rul) : errR L rs = 0 ∨ errR L rs = 1 ∨ errR L rs = 3 ∨ errR L rs = 6 := by
  unfold errR
  by_cases h1 : ¬ (1 ≤ L ∧ L ≤ 6)
  · rw [if_pos h1]; simp
  · rw [if_neg h1]
    by_cases h2 : rs.length > 2000
    · rw [if_pos h2]; simp
    · rw [if_neg h2]; cases rs.any (badR L) <;> simp
/-! ### strings.Compare -/
theorem cmpB_eq : ∀ (u v : List UInt8), u.length = v.length → Lib.compareBytes u v = CmpV u v := by
  have key : ∀ (u v : List UInt8), u.length = v.length → Lib.compareBytes u v = if Op.bytesLess u v then -1 else if u = v then 0 else 1 := by
    intro u
    induction u with
    | nil => intro v h; cases v with
      | nil => simp [Lib.compareBytes, Op.bytesLess]
      | cons b v => simp at h
    | cons a u ih => intro v h; cases v with
      | nil => simp at h
      | cons b v =>
        have := ih v (by simpa using h)
        simp only [Lib.compareBytes, Op.bytesLess, this]
        by_cases h1 : a < b
        · simp [h1]
        · by_cases h2 : b < a
          · have h3 : a ≠ b := fun e => by subst e; exact h1 h2
            simp [h1, h2, h3]
          · have h3 : a = b := by
              have k1 : ¬ a.toNat < b.toNat := fun k => h1 (UInt8.lt_iff_toNat_lt.2 k)
              have k2 : ¬ b.toNat < a.toNat := fun k => h2 (UInt8.lt_iff_toNat_lt.2 k)
              exact UInt8.toNat_inj.1 (by omega)
            subst h3
            simp [h1]
  intro u v h
  rw [key u v h]; unfold CmpV slx
  simp [h]
theorem cmp_len {u v : List UInt8} (h : u.length ≠ v.length) : (if (u.length : Int) < v.length then (-1 : Int) else if (v.length : Int) < u.length then 1 else 0) = CmpV u v := by
  unfold CmpV
  by_cases k : u.length < v.length
  · rw [if_pos (by omega), if_pos (slx_iff.2 (.inl k))]
  · have h1 : slx u v ≠ true := fun e => by rw [slx_iff] at e; omega
    rw [if_neg (by omega), if_pos (by omega), if_neg h1, if_neg (fun e => h (by rw [e]))]
theorem Ret.none0 (w : World) : Ret (fun _ => False) w w [] :=
  ⟨FrameX.refl _ _, fun _ _ => False, ⟨fun i A h => by simp at h, fun _ _ _ h => h, fun _ _ _ h => h.elim⟩, fun _ _ h => h.elim⟩
/-- a contract of the shelf: a value, the world as it was -/
theorem callS_pure {P : Program} {f : FuncId} {vs : List Value} {w : World} {v : Value} {φ : Value → List Asn → Prop} (h : Calls P f vs.toArray w fun e w' => e = .returned v ∧ w' = w) (hφ : φ v []) : CallS P f vs w φ :=
  h.mono fun e w' h' => ⟨v, [], hφ, h'.1, by rw [h'.2]; exact Ret.none0 w⟩
end Go.Sx
