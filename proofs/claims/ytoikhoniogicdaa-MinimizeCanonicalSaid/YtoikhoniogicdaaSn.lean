import Derived.Test.YtoikhoniogicdaaSo
set_option linter.unusedVariables false
set_option linter.unusedSimpArgs false
namespace Go.Sx
open Go.RowKit
/-! ### results in memory -/
def resOf (r : ResultVar) (tmps : Array Value) : Sem Value := match r with
  | .tmp t => pure (tmps.getD t undef)
  | .cell a t => do loadVar t (← asAddr (tmps.getD a undef))
def ResY (C : Cx) (st : St) (r : ResultVar) (v : Value) : Prop := ∀ a w, Sim C st a w → (resOf r a.tmps).run C.P w = .ok v w
inductive ResYs (C : Cx) (st : St) : List ResultVar → List Value → Prop
  | nil : ResYs C st [] []
  | cons {r : ResultVar} {v : Value} {rs : List ResultVar} {vs : List Value} : ResY C st r v → ResYs C st rs vs → ResYs C st (r :: rs) (v :: vs)
def retV : List Value → Value
  | [v] => v
  | vs => .tuple vs.toArray
theorem run_mapM_list {P : Program} {α : Type} (f : α → Sem Value) (w : World) : ∀ (l : List α) (vs : List Value), l.length = vs.length → (∀ (i : Nat) r v, l[i]? = some r → vs[i]? = some v → (f r).run P w = .ok v w) → (l.mapM f).run P w = .ok vs w
  | [], [], _, _ => by simp [Sem.run_pure]
  | r :: l, v :: vs, hl, h => by
    have h0 := h 0 r v rfl rfl
    have ih := run_mapM_list f w l vs (by simpa using hl) (fun i r v h1 h2 => h (i + 1) r v (by simpa using h1) (by simpa using h2))
    simp only [List.mapM_cons, Sem.run_bind, h0, Result.andThen_ok, ih, Sem.run_pure]
theorem ResYs.get {C : Cx} {st : St} {rs : List ResultVar} {vs : List Value} (h : ResYs C st rs vs) : rs.length = vs.length ∧ ∀ (i : Nat) r v, rs[i]? = some r → vs[i]? = some v → ResY C st r v := by
  induction h with
  | nil => exact ⟨rfl, fun i r v h => by simp at h⟩
  | cons h1 h2 ih =>
    refine ⟨by simp [ih.1], fun i r v hr hv => ?_⟩
    cases i with
    | zero => simp at hr hv; subst hr; subst hv; exact h1
    | succ i => exact ih.2 i r v (by simpa using hr) (by simpa using hv)
theorem results_run {C : Cx} {st : St} {fn : Func} {rs : List ResultVar} {vs : List Value} (hr : fn.results = rs.toArray) (h : ResYs C st rs vs) {a : Act} {w : World} (hs : Sim C st a w) : (results fn a.tmps).run C.P w = .ok (retV vs) w := by
  obtain ⟨hl, hg⟩ := h.get
  have := run_mapM_list (P := C.P) (fun r => resOf r a.tmps) w rs vs hl (fun i r v h1 h2 => hg i r v h1 h2 a w hs)
  have e : (fn.results.mapM (m := Sem) fun r => resOf r a.tmps).run C.P w = .ok vs.toArray w := by
    rw [hr, List.mapM_toArray]
    simp [this]
  have e3 : results fn a.tmps = (do let vs ← fn.results.mapM (fun r => resOf r a.tmps); pure (if h : vs.size = 1 then vs[0] else .tuple vs)) := by
    unfold results
    congr 1
  rw [e3]
  simp only [Sem.run_bind, e]
  simp only [Result.andThen_ok, Sem.run_pure]
  match vs with
  | [] => rfl
  | [v] => rfl
  | v :: u :: vs => rfl
theorem ResY.tmp {C : Cx} {sl : List (Nat × Value)} {own : List Asn} {t : Nat} {v : Value} (h : get sl t = some v) : ResY C ⟨sl, own⟩ (.tmp t) v := fun a w hs => by
  have := hs.slot t v h
  simp only [resOf, this, Sem.run_pure]
theorem ResY.cell {C : Cx} {sl : List (Nat × Value)} {own : List Asn} {s t b off sz : Nat} {cs us : List Value} (ht : AggT C.P t sz) (hx : get sl s = some (.pointer (some ⟨b, off, none⟩))) (hb : BoxS C own b cs) (hu : (cs.drop off).take sz = us) (hl : us.length = sz) : ResY C ⟨sl, own⟩ (.cell s t) (.agg us.toArray) := fun a w hs => by
  obtain ⟨E, hb⟩ := hb w hs.world
  have hl' := run_loadCells_list (P := C.P) (w := w) ⟨b, off, none⟩ us (fun i u hi => by
    rw [Addr.add_lit, cell_of_row w b _ _ E (0, 0) hb]
    rw [← hu, List.getElem?_take] at hi
    split at hi
    · rw [List.getElem?_drop] at hi; simpa using hi
    · cases hi)
  rw [hl] at hl'
  have := hs.slot s _ hx
  simp only [resOf, this]
  simp [asAddr, loadVar, run_isAgg_agg ht, run_sizeOf_of ht.2, hl']
theorem AK.retG {C : Cx} {sl : List (Nat × Value)} {own : List Asn} {fn : Func} {R : Ending → World → Prop} (rs : List ResultVar) {vs : List Value} (hr : fn.results = rs.toArray) (hv : ResYs C ⟨sl, own⟩ rs vs) (h : ∀ w, HW C own w → R (.returned (retV vs)) w) : AK C ⟨sl, own⟩ (bodyPost C.P fn R .ret) := by
  intro a w hs
  exact ⟨hs.defers, _, results_run hr hv hs, h w hs.world⟩
theorem AK.endG {C : Cx} {sl : List (Nat × Value)} {own : List Asn} {fn : Func} {R : Ending → World → Prop} (rs : List ResultVar) {vs : List Value} (hr : fn.results = rs.toArray) (hv : ResYs C ⟨sl, own⟩ rs vs) (h : ∀ w, HW C own w → R (.returned (retV vs)) w) : AK C ⟨sl, own⟩ (bodyPost C.P fn R .normal) := by
  intro a w hs
  exact ⟨hs.defers, _, results_run hr hv hs, h w hs.world⟩

theorem one'_nil : one' [] := fun u h => by cases h
theorem one'_cons {u : Value} {us : List Value} (h : u.oneCell' = true) (h' : one' us) : one' (u :: us) := fun x hx => by
  rcases List.mem_cons.1 hx with rfl | hx
  · exact h
  · exact h' x hx
theorem one'_map {α : Type} (f : α → Value) (h : ∀ a, (f a).oneCell' = true) (xs : List α) : one' (xs.map f) := by
  intro u hu; rw [List.mem_map] at hu; obtain ⟨x, _, rfl⟩ := hu; exact h x
theorem Rd.sl {G : Nat → Prop} {w : World} {v : Value} {sz n : Nat} {cs : List Value} (h : Rd G w v sz n cs) : IsSl v := by
  obtain ⟨a, c, h, _⟩ := h; exact ⟨a, _, c, h⟩
theorem nilSl : IsSl (.slice none 0 0) := ⟨_, _, _, rfl⟩
theorem AK.shape {C : Cx} {sl : List (Nat × Value)} {own : List Asn} {K : Act → World → Prop} (i : Nat) {v : Value} {E : TypeId} {sz n : Nat} {cs : List Value} (hi : own[i]? = some (row v E sz n cs)) (h : IsSl v → AK C ⟨sl, own⟩ K) : AK C ⟨sl, own⟩ K :=
  AK.fact (p := IsSl v) (fun w hw => hw.shape i hi) h
theorem AK.lenBd {C : Cx} {sl : List (Nat × Value)} {own : List Asn} {K : Act → World → Prop} (i : Nat) {v : Value} {E : TypeId} {sz n : Nat} {cs : List Value} (hi : own[i]? = some (row v E sz n cs)) (h : n ≤ 9223372036854775807 → AK C ⟨sl, own⟩ K) : AK C ⟨sl, own⟩ K :=
  AK.fact (p := n ≤ 9223372036854775807) (fun w hw => (RdS.own (C := C) i hi w hw).le) h

theorem Yl.idxK {C : Cx} {sl : List (Nat × Value)} {own : List Asn} {dst : Option Nat} {ty : TypeId} {pos : String} {aft : Array Edge} {g : Option (Nat × Bool)} {x i : Operand} {t e : TypeId} {sz : Nat} {v : Value} {n : Nat} {q : IntKind} {k : Int} {cs : List Value} (ht : SlT C.P t e sz) (hx : opv ⟨sl, own⟩ x = some v) (hi : opv ⟨sl, own⟩ i = some (.int q k))
    (hr : RdS C own v sz n cs) (hz : 0 < sz) (h0 : 0 ≤ k ∧ k < n) : Yl C ⟨sl, own⟩ ⟨dst, .indexAddr t x i, ty, pos, aft, g⟩ (.pointer (some ((slA v).add (k.toNat * sz)))) :=
  fun a w hs => by
    obtain ⟨oa, cap, rfl, _, _, h4, _⟩ := hr w hs.world
    have := h4 (by omega) hz
    obtain ⟨ad, rfl⟩ := Option.isSome_iff_exists.1 this
    have h1 := ht.1
    obtain ⟨inf, h2, h3⟩ := ht.inf
    simp [execOp, opv_eval hs hx, opv_eval hs hi, Instr.indexAt, asIntOf, run_underlying h1, h0.1, h0.2, sizeOf, typeInfo, h2, h3, slA]

theorem Yl.subE {C : Cx} {sl : List (Nat × Value)} {own : List Asn} {dst : Option Nat} {ty : TypeId} {pos : String} {aft : Array Edge} {g : Option (Nat × Bool)} {x y : Operand} {t t' : TypeId} {m n : Int} (r : Int) (hx : opv ⟨sl, own⟩ x = some (.int .i64 m)) (hy : opv ⟨sl, own⟩ y = some (.int .i64 n)) (e : m - n = r) (h1 : -9223372036854775808 ≤ r ∧ r ≤ 9223372036854775807) :
    Yl C ⟨sl, own⟩ ⟨dst, .binOp .sub t x y t', ty, pos, aft, g⟩ (.int .i64 r) := by
  subst e; exact Yl.sub hx hy h1
theorem Yl.addE {C : Cx} {sl : List (Nat × Value)} {own : List Asn} {dst : Option Nat} {ty : TypeId} {pos : String} {aft : Array Edge} {g : Option (Nat × Bool)} {x y : Operand} {t t' : TypeId} {m n : Int} (r : Int) (hx : opv ⟨sl, own⟩ x = some (.int .i64 m)) (hy : opv ⟨sl, own⟩ y = some (.int .i64 n)) (e : m + n = r) (h1 : -9223372036854775808 ≤ r ∧ r ≤ 9223372036854775807) :
    Yl C ⟨sl, own⟩ ⟨dst, .binOp .add t x y t', ty, pos, aft, g⟩ (.int .i64 r) := by
  subst e; exact Yl.add hx hy h1
theorem Yl.mulE {C : Cx} {sl : List (Nat × Value)} {own : List Asn} {dst : Option Nat} {ty : TypeId} {pos : String} {aft : Array Edge} {g : Option (Nat × Bool)} {x y : Operand} {t t' : TypeId} {m n : Int} (r : Int) (hx : opv ⟨sl, own⟩ x = some (.int .i64 m)) (hy : opv ⟨sl, own⟩ y = some (.int .i64 n)) (e : m * n = r) (h1 : -9223372036854775808 ≤ r ∧ r ≤ 9223372036854775807) :
    Yl C ⟨sl, own⟩ ⟨dst, .binOp .mul t x y t', ty, pos, aft, g⟩ (.int .i64 r) := by
  subst e; exact Yl.mul hx hy h1
theorem Yl.sliceToN {C : Cx} {sl : List (Nat × Value)} {own : List Asn} {dst : Option Nat} {ty : TypeId} {pos : String} {aft : Array Edge} {g : Option (Nat × Bool)} (i k : Nat) {x h : Operand} {t E : TypeId} {sz n : Nat} {v : Value} {m : Int} {cs : List Value} (hi : own[i]? = some (row v E sz n cs)) (ht : SlT C.P t E sz) (hx : opv ⟨sl, own⟩ x = some v) (hh : opv ⟨sl, own⟩ h = some (.int .i64 m)) (e : m = k) (hm : k ≤ n) :
    Yl C ⟨sl, own⟩ ⟨dst, .slice t x none (some h) none, ty, pos, aft, g⟩ (slTo v k) := by
  subst e; exact Yl.sliceTo i hi ht hx hh (by omega)
theorem slTo_sl {v : Value} (k : Nat) (h : IsSl v) : IsSl (slTo v k) := by obtain ⟨a, n, c, rfl⟩ := h; exact ⟨_, _, _, rfl⟩
theorem AK.flat0 {C : Cx} {sl : List (Nat × Value)} {own l post : List Asn} {K : Act → World → Prop} (e : own = bigA l :: post) (h : AK C ⟨sl, l ++ post⟩ K) : AK C ⟨sl, own⟩ K := by
  subst e; exact fun a w hs => h a w ⟨hs.size, hs.defers, hs.slot, hs.world.flat⟩
theorem Ret.ofBig0 {C : Cx} {l : List Asn} {w : World} (h : HW C l w) : Ret C.S C.W0 w [bigA l] := Ret.ofBig (own := []) (by rw [List.append_nil]; exact h)

/-! ### automata -/
structure Dfa where
  L : Int
  s : Int
  fin : List Bool
  nx : List (List Int)
deriving DecidableEq
/-- a struct value that reads as d -/
def RdD (F : Nat → Prop) (w : World) (v : Value) (d : Dfa) : Prop := ∃ vF vN, v = .agg #[.int .i64 d.L, .int .i64 d.s, vF, vN] ∧ RdL F Value.bool w vF d.fin ∧ RdLL F (Value.int .i64) w vN d.nx
theorem RdD.at {C : Cx} {own : List Asn} {w : World} {v : Value} {d : Dfa} (h : RdD C.S C.W0 v d) (hw : HW C own w) : RdD (fun _ => False) w v d := by
  obtain ⟨vF, vN, rfl, h1, h2⟩ := h
  exact ⟨vF, vN, rfl, h1.at hw, h2.at hw⟩
theorem RdD.mk {F : Nat → Prop} {w : World} {vF vN : Value} {d : Dfa} (h1 : RdL F Value.bool w vF d.fin) (h2 : RdLL F (Value.int .i64) w vN d.nx) : RdD F w (.agg #[.int .i64 d.L, .int .i64 d.s, vF, vN]) d := ⟨vF, vN, rfl, h1, h2⟩
/-- the three things that a made automaton owns -/
def dfaO (EB EI ER : TypeId) (vF vN : Value) (rs : List Value) (d : Dfa) : List Asn := [row vF EB 1 d.fin.length (d.fin.map Value.bool), row vN ER 1 d.nx.length rs, bigA (matG (Value.int .i64) EI rs d.nx)]
/-- a result that is an automaton of its own -/
def DfaR (EB EI ER : TypeId) (r : Value) (o : List Asn) (d : Dfa) : Prop := ∃ vF vN rs, r = .agg #[.int .i64 d.L, .int .i64 d.s, vF, vN] ∧ rs.length = d.nx.length ∧ IsSl vF ∧ IsSl vN ∧ o = dfaO EB EI ER vF vN rs d
def fldB (P : Program) (s f off : Nat) : Bool := match P.underlying s with
  | some (.struct fs) => match fs[f]? with
    | some fd => fd.offset == off && ((P.info? fd.type).map (fun i => decide (i.size = 0)) == some false)
    | none => false
  | _ => false
theorem FldT.of {P : Program} {s f off : Nat} (h : fldB P s f off = true) : FldT P s f off := by
  unfold fldB at h
  split at h
  · rename_i fs hu
    split at h
    · rename_i fd hf
      simp only [Bool.and_eq_true, beq_iff_eq] at h
      exact ⟨fs, fd, hu, hf, h.1, h.2⟩
    · cases h
  · cases h
/-! ### the first that serves -/
theorem HW.rest {C : Cx} {a : Asn} {l : List Asn} {w : World} (h : HW C (a :: l) w) : HW C l w := by
  have := h.pick (own' := l) ((List.range' 1 l.length)) List.nodup_range' (by
    have := fm_range (a :: l) l.length 1 (by simp; omega)
    rw [this]; simp) (by simp)
  exact this
theorem RdS.hd {C : Cx} {l : List Asn} {v : Value} {E : TypeId} {sz n : Nat} {cs : List Value} : RdS C (row v E sz n cs :: l) v sz n cs := RdS.own 0 rfl
theorem RdS.tl {C : Cx} {a : Asn} {l : List Asn} {v : Value} {sz n : Nat} {cs : List Value} (h : RdS C l v sz n cs) : RdS C (a :: l) v sz n cs := fun w hw => h w hw.rest
theorem BoxS.hd {C : Cx} {l : List Asn} {b : Nat} {E : TypeId} {sz : Nat} {cs : List Value} : BoxS C (box b E sz cs :: l) b cs := BoxS.own 0 rfl
theorem BoxS.tl {C : Cx} {a : Asn} {l : List Asn} {b : Nat} {cs : List Value} (h : BoxS C l b cs) : BoxS C (a :: l) b cs := fun w hw => h w hw.rest
theorem MapS.hd {C : Cx} {l : List Asn} {b : Nat} {kvs : List (Value × Value)} : MapS C (mapA b kvs :: l) (.map (some b)) kvs := MapS.own 0 rfl
theorem MapS.tl {C : Cx} {a : Asn} {l : List Asn} {v : Value} {kvs : List (Value × Value)} (h : MapS C l v kvs) : MapS C (a :: l) v kvs := fun w hw => h w hw.rest
end Go.Sx
