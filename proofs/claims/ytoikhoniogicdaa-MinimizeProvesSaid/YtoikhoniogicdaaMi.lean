import Derived.Test.YtoikhoniogicdaaMh
import Derived.Test.YtoikhoniogicdaaSk
set_option linter.unusedVariables false
set_option linter.unusedSectionVars false
set_option linter.unusedSimpArgs false
namespace Go.Sx
/-! ### reversing in place -/
def rvK (l : List UInt8) (k : Nat) : List UInt8 := (List.range l.length).map fun t => if t < k ∨ l.length - k ≤ t then l.getD (l.length - 1 - t) 0 else l.getD t 0
theorem rvK_len (l : List UInt8) (k : Nat) : (rvK l k).length = l.length := by simp [rvK]
theorem rvK_get {l : List UInt8} {k t : Nat} (h : t < l.length) : (rvK l k).getD t 0 = if t < k ∨ l.length - k ≤ t then l.getD (l.length - 1 - t) 0 else l.getD t 0 := by
  simp [rvK, List.getD_eq_getElem?_getD, h]
theorem ext_getD {xs ys : List UInt8} (hl : xs.length = ys.length) (h : ∀ t, t < xs.length → xs.getD t 0 = ys.getD t 0) : xs = ys := by
  apply List.ext_getElem hl
  intro t h1 h2
  have := h t h1
  simpa [List.getD_eq_getElem?_getD, h1, h2] using this
theorem rvK_zero (l : List UInt8) : rvK l 0 = l := by
  apply ext_getD (rvK_len l 0)
  intro t ht
  rw [rvK_len] at ht
  rw [rvK_get ht, if_neg (by omega)]
theorem getD_set8 {xs : List UInt8} {i t : Nat} {v : UInt8} (h : t < xs.length) : (xs.set i v).getD t 0 = if i = t then v else xs.getD t 0 := by
  rw [List.getD_eq_getElem?_getD, List.getD_eq_getElem?_getD, List.getElem?_set]
  by_cases e : i = t
  · subst e; simp [h]
  · simp [e]
theorem rvK_step {l : List UInt8} {k m : Nat} (hm : m = l.length - 1 - k) (h : k < m) : (((rvK l k).map byv).set k (byv ((rvK l k).getD m 0))).set m (byv ((rvK l k).getD k 0)) = (rvK l (k + 1)).map byv := by
  rw [← List.map_set, ← List.map_set]
  congr 1
  apply ext_getD (by simp [rvK_len])
  intro t ht
  rw [List.length_set, List.length_set, rvK_len] at ht
  rw [getD_set8 (by rw [List.length_set, rvK_len]; exact ht), getD_set8 (by rw [rvK_len]; exact ht), rvK_get ht, rvK_get ht, rvK_get (by omega), rvK_get (by omega)]
  subst hm
  by_cases e1 : l.length - 1 - k = t
  · rw [if_pos e1, if_neg (by omega), if_pos (by omega)]
    congr 1; omega
  · rw [if_neg e1]
    by_cases e2 : k = t
    · rw [if_pos e2, if_neg (by omega), if_pos (by omega)]
      congr 1; omega
    · rw [if_neg e2]
      by_cases e3 : t < k ∨ l.length - k ≤ t
      · rw [if_pos e3, if_pos (by omega)]
      · rw [if_neg e3, if_neg (by omega)]
theorem rvK_end {l : List UInt8} {k : Nat} (h : ¬ (k : Int) < (l.length : Int) - 1 - (k : Int)) : rvK l k = l.reverse := by
  apply ext_getD (by rw [rvK_len, List.length_reverse])
  intro t ht
  rw [rvK_len] at ht
  have e : l.reverse.getD t 0 = l.getD (l.length - 1 - t) 0 := by
    rw [List.getD_eq_getElem?_getD, List.getD_eq_getElem?_getD, List.getElem?_reverse ht]
  rw [rvK_get ht, e]
  split
  · rfl
  · have : l.length - 1 - t = t := by omega
    rw [this]
/-! ### codes of pairs -/
def cd (n : Nat) (p : Int × Int) : Int := p.1 * (n : Int) + p.2
def InB (m n : Nat) (p : Int × Int) : Prop := (0 ≤ p.1 ∧ p.1 < m) ∧ 0 ≤ p.2 ∧ p.2 < n
theorem cd_bd {m n : Nat} {p : Int × Int} (h : InB m n p) : 0 ≤ p.1 * (n : Int) ∧ p.1 * (n : Int) ≤ ((m * n : Nat) : Int) ∧ 0 ≤ cd n p ∧ cd n p < ((m * n : Nat) : Int) := by
  obtain ⟨⟨h1, h2⟩, h3, h4⟩ := h
  have e1 : 0 ≤ p.1 * (n : Int) := Int.mul_nonneg h1 (by omega)
  have e2 : (p.1 + 1) * (n : Int) ≤ (m : Int) * (n : Int) := Int.mul_le_mul_of_nonneg_right (by omega) (by omega)
  rw [Int.add_mul, Int.one_mul, ← Int.natCast_mul] at e2
  unfold cd
  omega
theorem cd_inj {m n : Nat} {p q : Int × Int} (hp : InB m n p) (hq : InB m n q) (h : cd n p = cd n q) : p = q := by
  obtain ⟨⟨h1, h2⟩, h3, h4⟩ := hp
  obtain ⟨⟨k1, k2⟩, k3, k4⟩ := hq
  unfold cd at h
  have hac : p.1 = q.1 := by
    rcases Int.lt_trichotomy p.1 q.1 with g | g | g
    · have := Int.mul_le_mul_of_nonneg_right (c := (n : Int)) (show p.1 + 1 ≤ q.1 by omega) (by omega)
      rw [Int.add_mul, Int.one_mul] at this; omega
    · exact g
    · have := Int.mul_le_mul_of_nonneg_right (c := (n : Int)) (show q.1 + 1 ≤ p.1 by omega) (by omega)
      rw [Int.add_mul, Int.one_mul] at this; omega
  rw [hac] at h
  exact Prod.ext hac (by omega)
theorem cd_mem {m n : Nat} {l : List (Int × Int)} {p : Int × Int} (hl : ∀ q ∈ l, InB m n q) (hp : InB m n p) : cd n p ∈ l.map (cd n) ↔ p ∈ l := by
  rw [List.mem_map]
  constructor
  · rintro ⟨q, hq, e⟩
    rw [← cd_inj (hl q hq) hp e]; exact hq
  · intro h; exact ⟨p, h, rfl⟩
theorem inB_univ2 {m n : Nat} {p : Int × Int} : p ∈ univ2 m n ↔ InB m n p := mem_univ2
/-! ### the queue of steps -/
abbrev Q4 := (Int × Int) × (Int × Int)
def q4c (p : Q4) : List Value := [.int .i64 p.1.1, .int .i64 p.1.2, .int .i64 p.2.1, .int .i64 p.2.2]
def q4v (p : Q4) : Value := .agg #[.int .i64 p.1.1, .int .i64 p.1.2, .int .i64 p.2.1, .int .i64 p.2.2]
def qcs (l : List Q4) : List Value := l.flatMap q4c
theorem qcs_length (l : List Q4) : (qcs l).length = l.length * 4 := by
  induction l with
  | nil => rfl
  | cons p l ih => simp only [qcs, List.flatMap_cons, List.length_append, q4c, List.length_cons, List.length_nil] at ih ⊢; omega
theorem qcs_append (a b : List Q4) : qcs (a ++ b) = qcs a ++ qcs b := by simp [qcs]
theorem qcs_at (l : List Q4) (j : Nat) (h : j < l.length) : ((qcs l).drop (j * 4)).take 4 = q4c (l.getD j ((0, 0), (0, 0))) := by
  have h1 : l = l.take j ++ l.getD j ((0, 0), (0, 0)) :: l.drop (j + 1) := by
    rw [List.getD_eq_getElem?_getD, List.getElem?_eq_getElem h, Option.getD_some, List.getElem_cons_drop, List.take_append_drop]
  have h2 : (qcs (l.take j)).length = j * 4 := by rw [qcs_length, List.length_take]; omega
  conv => lhs; rw [h1]
  rw [qcs_append, ← h2, List.drop_left]
  simp [qcs, q4c]
theorem Yl.loadQ {C : Cx} {sl : List (Nat × Value)} {own : List Asn} {dst : Option Nat} {ty : TypeId} {pos : String} {aft : Array Edge} {g : Option (Nat × Bool)} {x : Operand} {t : TypeId} {v : Value} {n j : Nat} {l : List Q4} (ht : AggT C.P t 4) (hx : opv ⟨sl, own⟩ x = some (.pointer (some ((slA v).add (j * 4)))))
    (hr : RdS C own v 4 n (qcs l)) (hj : j < l.length) : Yl C ⟨sl, own⟩ ⟨dst, .load t x, ty, pos, aft, g⟩ (q4v (l.getD j ((0, 0), (0, 0)))) := fun a w hs => by
  have hn : n = l.length := by obtain ⟨_, _, _, _, h, _⟩ := hr w hs.world; rw [qcs_length] at h; omega
  have := Yl.loadG (dst := dst) (ty := ty) (pos := pos) (aft := aft) (g := g) ht hx hr (by omega) a w hs
  rw [qcs_at l j hj] at this
  exact this
theorem zipQ_len {a b : List (Int × Int)} (h : b.length = a.length) : (a.zip b).length = a.length := by rw [List.length_zip]; omega
theorem zipQ_get {a b : List (Int × Int)} (h : b.length = a.length) {i : Nat} (hi : i < a.length) : (a.zip b).getD i ((0, 0), (0, 0)) = (a.getD i (0, 0), b.getD i (0, 0)) := by
  have h2 : i < b.length := by omega
  have h3 : i < (a.zip b).length := by rw [zipQ_len h]; exact hi
  rw [List.getD_eq_getElem?_getD, List.getElem?_eq_getElem h3, Option.getD_some, List.getElem_zip, List.getD_eq_getElem?_getD, List.getElem?_eq_getElem hi, Option.getD_some, List.getD_eq_getElem?_getD, List.getElem?_eq_getElem h2, Option.getD_some]
theorem zipQ_snoc {a b : List (Int × Int)} (h : b.length = a.length) (x y : Int × Int) : (a ++ [x]).zip (b ++ [y]) = a.zip b ++ [(x, y)] := by
  rw [List.zip_append h.symm]; rfl
theorem qcs_snoc (l : List Q4) (x : Q4) : qcs (l ++ [x]) = qcs l ++ q4c x := by rw [qcs_append]; simp [qcs]
/-! ### a set as a map of truth values -/
def metM (l : List (Int × Int)) : List ((Int × Int) × Bool) := l.map fun p => (p, true)
theorem metM_some (l : List (Int × Int)) (a : Int × Int) : mget (metM l) a = if a ∈ l then some true else none := by
  induction l with
  | nil => rfl
  | cons b l ih =>
    unfold metM at *
    rw [List.map_cons]
    unfold mget
    by_cases h : a = b
    · subst h; simp
    · rw [ih]; simp [h]
theorem metM_get (l : List (Int × Int)) (a : Int × Int) : ((mget (metM l) a).map Value.bool).getD (.bool false) = .bool (decide (a ∈ l)) := by
  rw [metM_some]
  by_cases h : a ∈ l <;> simp [h]
theorem metM_new {l : List (Int × Int)} {a : Int × Int} (h : a ∉ l) : mset (metM l) a true = metM (l ++ [a]) := by
  rw [mset_none (metM l) a true (by rw [metM_some, if_neg h])]
  simp [metM]
/-! ### a cell of a thing of several cells -/
theorem Addr.add_add (a : Addr) (m n : Nat) : (a.add m).add n = a.add (m + n) := by
  unfold Addr.add; repeat' split
  all_goals first | rfl | omega | (simp; omega) | (simp_all; done) | (congr 1; omega)
theorem Yl.idxArrA {C : Cx} {sl : List (Nat × Value)} {own : List Asn} {dst : Option Nat} {ty : TypeId} {pos : String} {aft : Array Edge} {g : Option (Nat × Bool)} {x i : Operand} {t e n sz : Nat} {a0 : Addr} (k : Nat) (ht : ArrT C.P t e n sz) (hx : opv ⟨sl, own⟩ x = some (.pointer (some a0))) (hi : opv ⟨sl, own⟩ i = some (.int .i64 (k : Int))) (hk : k < n) :
    Yl C ⟨sl, own⟩ ⟨dst, .indexAddr t x i, ty, pos, aft, g⟩ (.pointer (some (a0.add (k * sz)))) :=
  fun a w hs => by
    have hs1 := run_sizeOf_of ht.2 w
    have h0 : (0 : Int) ≤ (k : Int) ∧ (k : Int) < (n : Int) := by omega
    simp only [execOp, opv_eval hs hx, opv_eval hs hi, Instr.indexAt, asIntOf, Sem.run_bind, Sem.run_pure, Result.andThen_ok, run_underlying ht.1, Instr.sureAddr]
    simp [h0.1, h0.2, hs1, run_underlying ht.1, hk]
theorem Yl.loadPart {C : Cx} {sl : List (Nat × Value)} {own : List Asn} {dst : Option Nat} {ty : TypeId} {pos : String} {aft : Array Edge} {g : Option (Nat × Bool)} {x : Operand} {t : TypeId} {v u : Value} {n j k sz : Nat} {cs : List Value} (ht : OneT C.P t) (hx : opv ⟨sl, own⟩ x = some (.pointer (some (((slA v).add j).add k))))
    (hr : RdS C own v sz n cs) (hu : cs[j + k]? = some u) : Yl C ⟨sl, own⟩ ⟨dst, .load t x, ty, pos, aft, g⟩ u :=
  fun a w hs => by
    have h1 := (rd_cell (hr w hs.world) hu).1
    rw [Addr.add_add] at hx
    simp [execOp, opv_eval hs hx, Instr.loadAt, Instr.sureAddr, run_loadVar_one ht h1]
theorem pcs_part {ps : List (Int × Int)} {j : Nat} (h : j < ps.length) : (pcs ps)[j * 2 + 0 * 1]? = some (.int .i64 (ps.getD j (0, 0)).1) ∧ (pcs ps)[j * 2 + 1 * 1]? = some (.int .i64 (ps.getD j (0, 0)).2) := by
  have h1 := pcs_at ps j h
  have h2 := congrArg (fun l => l[0]?) h1
  have h3 := congrArg (fun l => l[1]?) h1
  simp only [List.getElem?_take, List.getElem?_drop] at h2 h3
  constructor
  · simpa using h2
  · simpa using h3
theorem met_first {N : Nat} {c : Int} (h : 0 ≤ c ∧ c < (N : Int)) : (List.replicate N (Value.bool false)).set c.toNat (Value.bool true) = (metL N [c]).map Value.bool := by
  have e : List.replicate N (Value.bool false) = (metL N []).map Value.bool := by rw [metL_nil, List.map_replicate]
  rw [e, ← List.map_set, metL_set h]; rfl
theorem met_next {N : Nat} {l : List Int} {c : Int} (h : 0 ≤ c ∧ c < (N : Int)) : ((metL N l).map Value.bool).set c.toNat (Value.bool true) = (metL N (l ++ [c])).map Value.bool := by
  rw [← List.map_set, metL_set h]
end Go.Sx
