import Derived.Test.YtckicbgffhbacaaDoorNb
import Derived.Laws.StructEq
set_option linter.unusedVariables false
set_option linter.unusedSimpArgs false
namespace Go.Sx
open Go.RowKit
/-! ### equality of structs of three integers -/
abbrev iv (n : Int) : Value := .int .i64 n
def eqE3B (P : Program) (t : TypeId) : Bool := match P.underlying t with
  | some (.struct fs) => match fs.toList with
    | [f0, f1, f2] => (match P.underlying f0.type with | some (.int .i64) => true | _ => false) && (match P.underlying f1.type with | some (.int .i64) => true | _ => false) && (match P.underlying f2.type with | some (.int .i64) => true | _ => false) && f0.offset == 0 && f1.offset == 1 && f2.offset == 2 && f0.name != "_" && f1.name != "_" && f2.name != "_" && !P.stoodInHeld t && !P.eqGuardType P.depth t
    | _ => false
  | _ => false
theorem eqE3_of {P : Program} {t : TypeId} (h : eqE3B P t = true) : P.eqGuardType P.depth t = false ∧ ∀ (a b : Edg) (w : World), (Op.equalIn 10000 t (ev a) (ev b)).run P w = .ok (decide (a = b)) w := by
  unfold eqE3B at h
  split at h
  case h_2 => cases h
  rename_i fs hu
  split at h
  case h_2 => cases h
  rename_i f0 f1 f2 hf
  simp only [Bool.and_eq_true, beq_iff_eq, bne_iff_ne, Bool.not_eq_true'] at h
  obtain ⟨⟨⟨⟨⟨⟨⟨⟨⟨⟨h0, h1⟩, h2⟩, o0⟩, o1⟩, o2⟩, n0⟩, n1⟩, n2⟩, hp⟩, hg⟩ := h
  split at h0
  case h_2 => cases h0
  rename_i u0
  split at h1
  case h_2 => cases h1
  rename_i u1
  split at h2
  case h_2 => cases h2
  rename_i u2
  refine ⟨hg, fun a b w => ?_⟩
  have hfs : P.fieldsOf t = fs := by unfold Program.fieldsOf; rw [hu]
  have hu2 : P.underlying t = some (.struct (P.fieldsOf t)) := by rw [hfs]; exact hu
  rw [show ev a = .agg #[iv a.1, iv a.2.1, iv a.2.2] from rfl, show ev b = .agg #[iv b.1, iv b.2.1, iv b.2.2] from rfl, run_equalIn_struct w 9999 t _ _ hu2 hp, hfs, hf]
  have p : ∀ (f : Field) (cs : Array Value) (v : Value) (w : World), P.underlying f.type = some (.int .i64) → cs[f.offset]? = some v → (part f.type cs f.offset).run P w = .ok v w := fun f cs v w hs hv => by
    simp [part, isAgg, run_underlying hs, hv]
  have q : ∀ (d : Nat) (f : Field) (u v : Int) (w : World), P.underlying f.type = some (.int .i64) → (Op.equalIn (d + 1) f.type (iv u) (iv v)).run P w = .ok (decide (u = v)) w := fun d f u v w hs => by
    unfold iv
    rw [run_equalIn_int w d f.type _ _ _ _ hs]
    rfl
  obtain ⟨a1, a2, a3⟩ := a
  obtain ⟨b1, b2, b3⟩ := b
  simp only [Op.eqFields, n0, n1, n2, ne_eq, not_false_eq_true, if_true, Sem.run_bind]
  rw [p f0 _ (iv a1) w u0 (by rw [o0]; rfl)]
  simp only [Result.andThen_ok]
  rw [p f0 _ (iv b1) w u0 (by rw [o0]; rfl)]
  simp only [Result.andThen_ok, q 9998 f0 _ _ _ u0]
  by_cases e1 : a1 = b1
  · rw [decide_eq_true e1]
    simp only [Bool.not_true, Bool.false_eq_true, if_false, Sem.run_bind]
    rw [p f1 _ (iv a2) w u1 (by rw [o1]; rfl)]
    simp only [Result.andThen_ok]
    rw [p f1 _ (iv b2) w u1 (by rw [o1]; rfl)]
    simp only [Result.andThen_ok, q 9998 f1 _ _ _ u1]
    by_cases e2 : a2 = b2
    · rw [decide_eq_true e2]
      simp only [Bool.not_true, Bool.false_eq_true, if_false, Sem.run_bind]
      rw [p f2 _ (iv a3) w u2 (by rw [o2]; rfl)]
      simp only [Result.andThen_ok]
      rw [p f2 _ (iv b3) w u2 (by rw [o2]; rfl)]
      simp only [Result.andThen_ok, q 9998 f2 _ _ _ u2]
      by_cases e3 : a3 = b3
      · rw [decide_eq_true e3]
        simp [e1, e2, e3]
      · rw [decide_eq_false e3]
        simp [e3]
    · rw [decide_eq_false e2]
      simp [e2]
  · rw [decide_eq_false e1]
    simp [e1]
section
variable {C : Cx} {sl : List (Nat × Value)} {own : List Asn} {dst : Option Nat} {ty : TypeId} {pos : String} {aft : Array Edge} {g : Option (Nat × Bool)}
theorem Yl.eqlE {x y : Operand} {t t' : TypeId} {a b : Edg} (ht : eqE3B C.P t = true) (hx : opv ⟨sl, own⟩ x = some (ev a)) (hy : opv ⟨sl, own⟩ y = some (ev b)) :
    Yl C ⟨sl, own⟩ ⟨dst, .binOp .eql t x y t', ty, pos, aft, g⟩ (.bool (decide (a = b))) := fun act w hs => by
  obtain ⟨hg, hE⟩ := eqE3_of ht
  simp only [execOp, opv_eval hs hx, opv_eval hs hy]
  have h1 := run_eqGuard_agg (P := C.P) w .eql t x y #[iv a.1, iv a.2.1, iv a.2.2] #[iv b.1, iv b.2.1, iv b.2.2] hg
  have h2 := run_eql_struct (P := C.P) w t #[iv a.1, iv a.2.1, iv a.2.2] #[iv b.1, iv b.2.1, iv b.2.2]
  have h3 := hE a b w
  simp only [ev] at h3 ⊢
  rw [h3] at h2
  simp [h1, h2]
theorem Yl.neqE {x y : Operand} {t t' : TypeId} {a b : Edg} (ht : eqE3B C.P t = true) (hx : opv ⟨sl, own⟩ x = some (ev a)) (hy : opv ⟨sl, own⟩ y = some (ev b)) :
    Yl C ⟨sl, own⟩ ⟨dst, .binOp .neq t x y t', ty, pos, aft, g⟩ (.bool (decide (¬ a = b))) := fun act w hs => by
  obtain ⟨hg, hE⟩ := eqE3_of ht
  simp only [execOp, opv_eval hs hx, opv_eval hs hy]
  have h1 := run_eqGuard_agg (P := C.P) w .neq t x y #[iv a.1, iv a.2.1, iv a.2.2] #[iv b.1, iv b.2.1, iv b.2.2] hg
  have h2 := run_neq_struct (P := C.P) w t #[iv a.1, iv a.2.1, iv a.2.2] #[iv b.1, iv b.2.1, iv b.2.2]
  have h3 := hE a b w
  simp only [ev] at h3 ⊢
  rw [h3] at h2
  simp [h1, h2]
end
section
variable {C : Cx} {sl : List (Nat × Value)} {own : List Asn} {dst : Option Nat} {ty : TypeId} {pos : String} {aft : Array Edge} {g : Option (Nat × Bool)}
theorem Yl.loadEd {x : Operand} {t : TypeId} {v : Value} {n j : Nat} {ps : List Edg} (ht : AggT C.P t 3) (hx : opv ⟨sl, own⟩ x = some (.pointer (some ((slA v).add (j * 3)))))
    (hr : RdS C own v 3 n (edc ps)) (hj : j < ps.length) : Yl C ⟨sl, own⟩ ⟨dst, .load t x, ty, pos, aft, g⟩ (ev (ps.getD j (0, 0, 0))) := fun a w hs => by
  have hn : n = ps.length := by obtain ⟨_, _, _, _, h, _⟩ := hr w hs.world; rw [edc_length] at h; omega
  have := Yl.loadG (dst := dst) (ty := ty) (pos := pos) (aft := aft) (g := g) ht hx hr (by omega) a w hs
  rw [edc_at ps j hj] at this
  exact this
theorem Yl.loadBoxE {x : Operand} {t b : Nat} {c : Edg} (ht : AggT C.P t 3) (hx : opv ⟨sl, own⟩ x = some (.pointer (some ⟨b, 0, none⟩))) (hb : BoxS C own b (ecs c)) :
    Yl C ⟨sl, own⟩ ⟨dst, .load t x, ty, pos, aft, g⟩ (ev c) := Yl.loadBoxG ht hx hb rfl rfl
theorem Yl.loadU {x : Operand} {t : TypeId} {v : Value} {n j : Nat} {xs : List W64} (ht : OneT C.P t) (hx : opv ⟨sl, own⟩ x = some (.pointer (some ((slA v).add (j * 1)))))
    (hr : RdS C own v 1 n (xs.map uv)) (hj : j < xs.length) : Yl C ⟨sl, own⟩ ⟨dst, .load t x, ty, pos, aft, g⟩ (uv (xs.getD j 0)) := Yl.load ht hx hr rfl 0 hj
end
section
variable {C : Cx} {sl : List (Nat × Value)} {own : List Asn} {dst : Option Nat} {ty : TypeId} {pos : String} {aft : Array Edge} {g : Option (Nat × Bool)}
theorem Yl.min3 {x y z : Operand} {t t' t'' : TypeId} {k : IntKind} {l m n : Int} (hx : opv ⟨sl, own⟩ x = some (.int k l)) (hy : opv ⟨sl, own⟩ y = some (.int k m)) (hz : opv ⟨sl, own⟩ z = some (.int k n)) :
    Yl C ⟨sl, own⟩ ⟨dst, .call ⟨.builtin .min, #[x, y, z], #[t, t', t'']⟩, ty, pos, aft, g⟩ (.int k (Min.min (Min.min l m) n)) :=
  fun a w hs => by
    simp [execOp, resolve, invoke, builtin, opv_eval hs hx, opv_eval hs hy, opv_eval hs hz, Builtin.min_, Builtin.min2]
    repeat' split
    all_goals omega
end
theorem ext_n {P : Nat → Prop} {n : Nat} (h : ∀ j, j < n → P j) (hn : P n) : ∀ j, j < n + 1 → P j := fun j hj => by
  rcases Nat.lt_or_eq_of_le (Nat.le_of_lt_succ hj) with h1 | rfl
  · exact h j h1
  · exact hn
/-! ### the order of edges -/
def cmpI (x y : Int) : Int := if x < y then -1 else if y < x then 1 else 0
def orI : List Int → Int
  | [] => 0
  | x :: l => if x ≠ 0 then x else orI l
def cmpE (a b : Edg) : Int := orI [cmpI a.1 b.1, cmpI a.2.1 b.2.1, cmpI a.2.2 b.2.2]
theorem orI_drop {xs : List Int} {k : Nat} (hk : k < xs.length) (h : xs.getD k 0 = 0) : orI (xs.drop k) = orI (xs.drop (k + 1)) := by
  have e : xs.drop k = xs.getD k 0 :: xs.drop (k + 1) := by
    rw [List.drop_eq_getElem_cons hk]; simp [List.getD_eq_getElem?_getD, hk]
  rw [e, h]; rfl
theorem orI_hit {xs : List Int} {k : Nat} (hk : k < xs.length) (h : ¬ xs.getD k 0 = 0) : orI (xs.drop k) = xs.getD k 0 := by
  have e : xs.drop k = xs.getD k 0 :: xs.drop (k + 1) := by
    rw [List.drop_eq_getElem_cons hk]; simp [List.getD_eq_getElem?_getD, hk]
  rw [e]; exact if_pos h
theorem orI_end {xs : List Int} {k : Nat} (hk : xs.length ≤ k) : orI (xs.drop k) = 0 := by rw [List.drop_eq_nil_of_le hk]; rfl
theorem bef_iff {a b : Edg} : bef a b = true ↔ ¬ (a = b ∨ 0 < cmpE a b) := by
  obtain ⟨a1, a2, a3⟩ := a
  obtain ⟨b1, b2, b3⟩ := b
  unfold bef cmpE cmpI orI
  simp only [Prod.mk.injEq, ne_eq]
  by_cases h1 : a1 = b1
  · subst h1
    by_cases h2 : a2 = b2
    · subst h2
      by_cases h3 : a3 = b3
      · subst h3; simp
      · by_cases h4 : a3 < b3
        · simp [h3, h4, orI]
        · have h5 : b3 < a3 := by omega
          simp [h3, h4, h5, orI]
    · by_cases h4 : a2 < b2
      · simp [h2, h4, orI]
      · have h5 : b2 < a2 := by omega
        simp [h2, h4, h5, orI]
  · by_cases h4 : a1 < b1
    · simp [h1, h4, orI]
    · have h5 : b1 < a1 := by omega
      simp [h1, h4, h5, orI]
end Go.Sx
