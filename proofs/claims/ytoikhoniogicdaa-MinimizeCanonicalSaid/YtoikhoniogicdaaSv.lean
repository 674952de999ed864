import Derived.Test.YtoikhoniogicdaaSw
import Derived.ChangeKeysEq
import Derived.Laws.StructEq
set_option linter.unusedVariables false
set_option linter.unusedSimpArgs false
namespace Go.Sx
open Go.RowKit

/-! ### keys that are compared by asking -/
theorem keyOfEqual {α : Type} [DecidableEq α] {P : Program} {kt : TypeId} {fk : α → Value} {d : TypeDesc} (hd : P.underlying kt = some d) (hnow : ∀ a b, Instr.sameNow d (fk a) (fk b) = none)
    (heq : ∀ (a b : α) (w : World), (Op.equal kt (fk a) (fk b)).run P w = .ok (decide (a = b)) w) (hcheck : ∀ (e : Bool) (a : α) (w : World), (Instr.checkKey e 10000 kt (fk a)).run P w = .ok () w) (hsame : ∀ a, Instr.sameBits 10000 (fk a) (fk a) = true) : KeyL P kt fk where
  find := by
    intro a es ks w h
    have ask : ∀ (es : List MapEntry) (ks : List α) (j : Nat), es.map (·.key) = ks.map fk → (Instr.findAsking kt (fk a) es j).run P w = .ok ((fidx a ks).bind fun i => (es[i]?).map fun e => (j + i, e.val)) w := by
      intro es
      induction es with
      | nil => intro ks j h; cases ks with
        | nil => simp [Instr.findAsking, fidx]
        | cons k ks => simp at h
      | cons e es ih =>
        intro ks j h
        cases ks with
        | nil => simp at h
        | cons k ks =>
          simp at h
          simp only [Instr.findAsking, h.1, Sem.run_bind, heq, Result.andThen_ok, fidx]
          by_cases hak : a = k
          · simp [hak]
          · simp only [hak, decide_false, if_false, Bool.false_eq_true]
            rw [ih ks (j + 1) (by simpa using h.2)]
            cases fidx a ks with
            | none => simp
            | some i =>
              simp only [Option.map_some, Option.bind_some, List.getElem?_cons_succ]
              cases es[i]? with
              | none => rfl
              | some e' => simp; omega
    simp only [Instr.findKey, Sem.run_bind, run_underlying hd, Result.andThen_ok]
    cases es with
    | nil => cases ks with
      | nil => simp [Instr.findNow, fidx]
      | cons k ks => simp at h
    | cons e es =>
      cases ks with
      | nil => simp at h
      | cons k ks =>
        have h0 : e.key = fk k := by simp at h; exact h.1
        simp only [Instr.findNow, h0, hnow]
        have := ask (e :: es) (k :: ks) 0 h
        simpa using this
  check := hcheck
  same := hsame

def pv (p : Int × Int) : Value := .agg #[.int .i64 p.1, .int .i64 p.2]

theorem keyPair {P : Program} {kt e : TypeId} (hk : P.underlying kt = some (.array 2 e)) (he : P.underlying e = some (.int .i64)) (hs : (P.info? e).map (·.size) = some 1) : KeyL P kt pv := by
  obtain ⟨i, hi⟩ : ∃ i, P.info? e = some i := by cases h : P.info? e with
    | none => simp [h] at hs
    | some i => exact ⟨i, rfl⟩
  have hsz : i.size = 1 := by simpa [hi] using hs
  have hco : P.cellsOf e = 1 := by simp [Program.cellsOf, hi, hsz]
  have hagg : ∀ w, (isAgg e).run P w = .ok false w := fun w => by simp [isAgg, run_underlying he]
  have hpart : ∀ (cs : Array Value) (off : Nat) (v : Value) (w : World), cs[off]? = some v → (part e cs off).run P w = .ok v w := fun cs off v w h => by simp [part, hagg, h]
  refine keyOfEqual hk (fun a b => rfl) (fun a b w => ?_) (fun em a w => ?_) (fun a => ?_)
  · show (Op.equalIn (9999 + 1) kt (pv a) (pv b)).run P w = _
    unfold pv
    rw [run_equalIn_array (w := w) 9999 _ _ hk hi]
    have hr : List.range 2 = [0, 1] := rfl
    rw [hr]
    have heq : ∀ (x y : Int) (w : World), (Op.equalIn 9999 e (.int .i64 x) (.int .i64 y)).run P w = .ok (x == y) w := fun x y w => run_equalIn_int w 9998 e .i64 .i64 x y he
    have hp0 : ∀ (x y : Value) (w : World), (part e #[x, y] 0).run P w = .ok x w := fun x y w => hpart _ _ _ _ rfl
    have hp1 : ∀ (x y : Value) (w : World), (part e #[x, y] 1).run P w = .ok y w := fun x y w => hpart _ _ _ _ rfl
    simp only [Op.eqItems, hco, Nat.zero_mul, Nat.one_mul, Sem.run_bind, Sem.run_pure, hp0, hp1, Result.andThen_ok, heq]
    obtain ⟨a1, a2⟩ := a
    obtain ⟨b1, b2⟩ := b
    by_cases h1 : a1 = b1 <;> by_cases h2 : a2 = b2 <;> simp [h1, h2, hp0, hp1, heq]
  · have hc : ∀ (n : Nat) (x : Int) (w : World), (Instr.checkKey em (n + 1) e (.int .i64 x)).run P w = .ok () w := fun n x w => by simp [Instr.checkKey, run_underlying he]
    have : ∀ n, (Instr.checkKey em (n + 2) kt (pv a)).run P w = .ok () w := fun n => by
      unfold pv
      have hs' : ∀ w, (sizeOf e).run P w = .ok 1 w := fun w => run_sizeOf_of hs w
      have hp0 : ∀ (x y : Value) (w : World), (part e #[x, y] 0).run P w = .ok x w := fun x y w => hpart _ _ _ _ rfl
      have hp1 : ∀ (x y : Value) (w : World), (part e #[x, y] 1).run P w = .ok y w := fun x y w => hpart _ _ _ _ rfl
      have hcn : ∀ (x : Int) (w : World), (Instr.checkKey em (n + 1) e (.int .i64 x)).run P w = .ok () w := fun x w => hc n x w
      unfold Instr.checkKey
      simp only [Sem.run_bind, run_underlying hk, Result.andThen_ok, Std.Legacy.Range.forIn_eq_forIn_range', Std.Legacy.Range.size]
      simp [List.range', List.forIn_cons, hs', hp0, hp1]
      simp only [hcn, Result.andThen_ok]
    exact this 9998
  · have : ∀ n, Instr.sameBits (n + 2) (pv a) (pv a) = true := fun n => by simp [pv, Instr.sameBits]
    exact this 9998

/-! ### slices of pairs -/
def pcs (ps : List (Int × Int)) : List Value := ps.flatMap fun p => [.int .i64 p.1, .int .i64 p.2]
theorem pcs_length (ps : List (Int × Int)) : (pcs ps).length = ps.length * 2 := by
  induction ps with
  | nil => rfl
  | cons p ps ih => simp only [pcs, List.flatMap_cons, List.length_append, List.length_cons, List.length_nil] at ih ⊢; omega
theorem pcs_append (a b : List (Int × Int)) : pcs (a ++ b) = pcs a ++ pcs b := by simp [pcs]
theorem pcs_at (ps : List (Int × Int)) (j : Nat) (h : j < ps.length) : ((pcs ps).drop (j * 2)).take 2 = [.int .i64 (ps.getD j (0, 0)).1, .int .i64 (ps.getD j (0, 0)).2] := by
  have h1 : ps = ps.take j ++ ps.getD j (0, 0) :: ps.drop (j + 1) := by
    rw [List.getD_eq_getElem?_getD, List.getElem?_eq_getElem h, Option.getD_some, List.getElem_cons_drop, List.take_append_drop]
  have h2 : (pcs (ps.take j)).length = j * 2 := by rw [pcs_length, List.length_take]; omega
  conv => lhs; rw [h1]
  rw [pcs_append, ← h2, List.drop_left]
  simp [pcs]

def RdP (w : World) (v : Value) (ps : List (Int × Int)) : Prop := Rd (fun _ => ¬ False) w v 2 ps.length (pcs ps)
theorem RdP.at {C : Cx} {own : List Asn} {v : Value} {xs : List (Int × Int)} {w : World} (h : RdP C.W0 v xs) (hw : HW C own w) (hS : ∀ b, ¬ C.S b := by exact fun _ => id) : RdP w v xs :=
  Rd.mono h fun b _ hlt => ⟨id, hw.frame.block b hlt (hS b)⟩
theorem RdP.own {C : Cx} {own : List Asn} {v : Value} {E : TypeId} {xs : List (Int × Int)} {w : World} (i : Nat) (hw : HW C own w) (hi : own[i]? = some (row v E 2 xs.length (pcs xs))) : RdP w v xs := by
  have := RdS.own (C := C) i hi w hw
  exact this.mono fun b _ _ => ⟨id, rfl⟩

theorem Yl.loadP {C : Cx} {sl : List (Nat × Value)} {own : List Asn} {dst : Option Nat} {ty : TypeId} {pos : String} {aft : Array Edge} {g : Option (Nat × Bool)} {x : Operand} {t : TypeId} {v : Value} {n j : Nat} {ps : List (Int × Int)} (ht : AggT C.P t 2) (hx : opv ⟨sl, own⟩ x = some (.pointer (some ((slA v).add (j * 2)))))
    (hr : RdS C own v 2 n (pcs ps)) (hj : j < ps.length) : Yl C ⟨sl, own⟩ ⟨dst, .load t x, ty, pos, aft, g⟩ (pv (ps.getD j (0, 0))) := fun a w hs => by
  have hn : n = ps.length := by obtain ⟨_, _, _, _, h, _⟩ := hr w hs.world; rw [pcs_length] at h; omega
  have := Yl.loadG (dst := dst) (ty := ty) (pos := pos) (aft := aft) (g := g) ht hx hr (by omega) a w hs
  rw [pcs_at ps j hj] at this
  exact this

theorem Yl.loadBoxP {C : Cx} {sl : List (Nat × Value)} {own : List Asn} {dst : Option Nat} {ty : TypeId} {pos : String} {aft : Array Edge} {g : Option (Nat × Bool)} {x : Operand} {t b : Nat} {m n : Int} (ht : AggT C.P t 2) (hx : opv ⟨sl, own⟩ x = some (.pointer (some ⟨b, 0, none⟩))) (hb : BoxS C own b [.int .i64 m, .int .i64 n]) :
    Yl C ⟨sl, own⟩ ⟨dst, .load t x, ty, pos, aft, g⟩ (pv (m, n)) := Yl.loadBoxG ht hx hb rfl rfl

theorem fill_setP (A : List (Int × Int)) (c : Int × Int) (n k : Nat) (hA : A.length = k) (hk : k < n) :
    (pcs (A ++ List.replicate (n - k) (0, 0))).take (k * 2) ++ [.int .i64 c.1, .int .i64 c.2] ++ (pcs (A ++ List.replicate (n - k) (0, 0))).drop (k * 2 + 2) = pcs ((A ++ [c]) ++ List.replicate (n - (k + 1)) (0, 0)) := by
  have hl : (pcs A).length = k * 2 := by rw [pcs_length, hA]
  rw [show n - k = (n - (k + 1)) + 1 from by omega, List.replicate_succ]
  rw [pcs_append, ← hl, List.take_left, List.drop_append]
  rw [List.drop_eq_nil_of_le (by omega)]
  simp [pcs, hl]

theorem madeCells_pairs (n : Nat) : (madeCells (Value.agg #[.int .i64 0, .int .i64 0]).cells (n * 2)).toList = pcs (List.replicate n (0, 0)) := by
  apply List.ext_getElem
  · simp [madeCells, pcs_length]
  · intro i h1 h2
    have hi : i < n * 2 := by simpa [madeCells] using h1
    have hj : i / 2 < n := by omega
    have e := pcs_at (List.replicate n (0, 0)) (i / 2) (by simpa using hj)
    have e' := congrArg (fun l => l[i % 2]?) e
    simp only [List.getElem?_take, List.getElem?_drop] at e'
    rw [if_pos (Nat.mod_lt _ (by omega)), show i / 2 * 2 + i % 2 = i from by omega, List.getElem?_eq_getElem h2] at e'
    have hr : (List.replicate n ((0 : Int), (0 : Int))).getD (i / 2) (0, 0) = (0, 0) := by simp [List.getD_eq_getElem?_getD, List.getElem?_replicate, hj]
    rw [hr] at e'
    have hz : ∀ m, m < 2 → ([Value.int .i64 0, Value.int .i64 0] : List Value)[m]? = some (.int .i64 0) := by intro m hm; match m, hm with
      | 0, _ => rfl
      | 1, _ => rfl
    rw [hz _ (Nat.mod_lt _ (by omega))] at e'
    simp only [Option.some.injEq] at e'
    rw [e']
    simp only [madeCells, Value.cells, Array.toList_map, List.getElem_map]
    have : ∀ m, m < 2 → (#[Value.int .i64 0, Value.int .i64 0] : Array Value)[m]! = .int .i64 0 := by intro m hm; match m, hm with
      | 0, _ => rfl
      | 1, _ => rfl
    exact this _ (Nat.mod_lt _ (by decide))

theorem AK.makeP {C : Cx} {sl : List (Nat × Value)} {own : List Asn} {ops : Array Oper} {Q : Exit → Act → World → Prop} {ty : TypeId} {pos : String} {aft : Array Edge} {g : Option (Nat × Bool)} {rest : List Oper} {d : Nat} {t E : TypeId} {l c : Operand} {s' by_ : Nat} {n : Nat} (ht : SlT C.P t E 2) (hE : ElT C.P E (.agg #[.int .i64 0, .int .i64 0]) s' by_) (hl : opv ⟨sl, own⟩ l = some (.int .i64 (n : Int))) (hc : opv ⟨sl, own⟩ c = some (.int .i64 (n : Int)))
    (hb : by_ * n ≤ 281474976710656) (hm : n ≤ 9223372036854775807) (hg : Grd ops sl g) (hd : Nat.blt d C.N = true)
    (h : ∀ v, AK C ⟨(d, v) :: sl, own ++ [row v E 2 n (pcs (List.replicate n (0, 0)))]⟩ (wpList C.P ops Q rest)) :
    AK C ⟨sl, own⟩ (wpList C.P ops Q (⟨some d, .makeSlice t l c, ty, pos, aft, g⟩ :: rest)) :=
  AK.make ht hE hl hc hb hm hg hd (fun v => by rw [madeCells_pairs]; exact h v)

/-! ### slices of slices of integers -/
def matL (E : TypeId) (rs : List Value) (xss : List (List Int)) : List Asn := (rs.zip xss).map fun p => row p.1 E 1 p.2.length (p.2.map (Value.int .i64))
theorem matL_length {E : TypeId} {rs : List Value} {xss : List (List Int)} (h : rs.length = xss.length) : (matL E rs xss).length = xss.length := by simp [matL, h]
theorem matL_get {E : TypeId} {rs : List Value} {xss : List (List Int)} (h : rs.length = xss.length) {i : Nat} (hi : i < xss.length) : (matL E rs xss)[i]? = some (row (rs.getD i undef) E 1 (xss.getD i []).length ((xss.getD i []).map (Value.int .i64))) := by
  simp [matL, List.getElem?_zip_eq_some, List.getElem?_eq_getElem hi, List.getElem?_eq_getElem (show i < rs.length by omega), List.getD_eq_getElem?_getD, List.zip, List.getElem?_zipWith]
theorem matL_set {E : TypeId} {rs : List Value} {xss : List (List Int)} (h : rs.length = xss.length) {i : Nat} (hi : i < xss.length) (v : Value) (ys : List Int) : (matL E rs xss).set i (row v E 1 ys.length (ys.map (Value.int .i64))) = matL E (rs.set i v) (xss.set i ys) := by
  apply List.ext_getElem?
  intro k
  rw [List.getElem?_set]
  by_cases hk : i = k
  · subst hk
    rw [if_pos rfl, if_pos (by rw [matL_length h]; exact hi), matL_get (by simpa using h) (by simpa using hi)]
    simp [List.getD_eq_getElem?_getD, hi, show i < rs.length by omega]
  · rw [if_neg hk]
    simp [matL, List.zip, List.getElem?_zipWith, List.getElem?_set_ne hk]

/-- a slice of slices that reads so -/
def RdM (w : World) (v : Value) (xss : List (List Int)) : Prop := ∃ rs : List Value, rs.length = xss.length ∧ Rd (fun _ => ¬ False) w v 1 xss.length rs ∧ ∀ i, i < xss.length → RdI w (rs.getD i undef) (xss.getD i [])

theorem RdM.own {C : Cx} {own : List Asn} {v : Value} {E E' : TypeId} {rs : List Value} {xss : List (List Int)} {w : World} (i j : Nat) (hw : HW C own w) (hl : rs.length = xss.length) (hi : own[i]? = some (row v E 1 xss.length rs)) (hj : own[j]? = some (bigA (matL E' rs xss))) : RdM w v xss := by
  refine ⟨rs, hl, ?_, fun k hk => ?_⟩
  · exact (RdS.own (C := C) i hi w hw).mono fun b _ _ => ⟨id, rfl⟩
  · exact (RdS.big (C := C) j k hj (matL_get hl hk) w hw).mono fun b _ _ => ⟨id, rfl⟩
theorem RdM.at {C : Cx} {own : List Asn} {v : Value} {xss : List (List Int)} {w : World} (h : RdM C.W0 v xss) (hw : HW C own w) (hS : ∀ b, ¬ C.S b := by exact fun _ => id) : RdM w v xss := by
  obtain ⟨rs, h1, h2, h3⟩ := h
  exact ⟨rs, h1, Rd.mono h2 fun b _ hlt => ⟨id, hw.frame.block b hlt (hS b)⟩, fun i hi => RdI.at (h3 i hi) hw hS⟩

/-- append to one of many rows, and the row's value kept in slot d2 -/
theorem AK.append1In {C : Cx} {sl : List (Nat × Value)} {own : List Asn} {ops : Array Oper} {Q : Exit → Act → World → Prop} {ty : TypeId} {pos : String} {aft : Array Edge} {rest : List Oper} (jj ii : Nat) {l : List Asn} {d1 d2 : Nat} {s x : Operand} {t E : TypeId} {sz by_ : Nat} {z v u : Value} {n : Nat} {cs : List Value} {ty2 : TypeId} {pos2 : String} {aft2 : Array Edge} (hj : own[jj]? = some (bigA l)) (hi : l[ii]? = some (row v E sz n cs)) (ht : SlT C.P t E sz) (hE : ElT C.P E z sz by_) (hz : z.cells.size = sz) (hsz : 0 < sz)
    (hxs : opvs ⟨sl, own⟩ [s, x] = some [v, u]) (hne : ∀ k, s = .tmp k → (d1 == k) = false) (hu : u.cells.size = sz) (h1 : one' u.cells.toList) (hm : n + 1 ≤ 9223372036854775807) (hb : (n + 1) * by_ ≤ 140737488355328) (hb2 : sz ≤ 16777216) (hd1 : Nat.blt d1 C.N = true) (hd : Nat.blt d2 C.N = true)
    (h : ∀ v' t', IsSl v' → AK C ⟨(d2, v') :: (d1, t') :: sl, own.set jj (bigA (l.set ii (row v' E sz (n + 1) (cs ++ u.cells.toList))))⟩ (wpList C.P ops Q rest)) :
    AK C ⟨sl, own⟩ (wpList C.P ops Q (⟨some d1, .buildSlice t 1 #[(0, x)], ty, pos, aft, none⟩ :: ⟨some d2, .call ⟨.builtin .append, #[s, .tmp d1], #[t, t]⟩, ty2, pos2, aft2, none⟩ :: rest)) := by
  have hjl : jj < own.length := (List.getElem?_eq_some_iff.1 hj).1
  have hil : ii < l.length := (List.getElem?_eq_some_iff.1 hi).1
  have main : AK C ⟨sl, own.set jj (bigA (l.set ii empA)) ++ [row v E sz n cs]⟩ (wpList C.P ops Q (⟨some d1, .buildSlice t 1 #[(0, x)], ty, pos, aft, none⟩ :: ⟨some d2, .call ⟨.builtin .append, #[s, .tmp d1], #[t, t]⟩, ty2, pos2, aft2, none⟩ :: rest)) := by
    refine AK.append1 own.length (v := v) (u := u) (n := n) (cs := cs) (by simp) ht hE hz hsz ?_ hne hu h1 hm hb hb2 hd1 hd fun v' t' hsl => ?_
    · have : ∀ o, opv ⟨sl, own.set jj (bigA (l.set ii empA)) ++ [row v E sz n cs]⟩ o = opv ⟨sl, own⟩ o := fun o => by cases o <;> rfl
      simpa only [opvs, this] using hxs
    · intro a w hs
      refine h v' t' hsl a w ⟨hs.size, hs.defers, hs.slot, ?_⟩
      have := hs.world
      rw [List.set_append_right _ _ (by simp)] at this
      simp only [List.length_set, Nat.sub_self, List.set_cons_zero] at this
      exact this.putback jj ii hjl hil
  intro a w hs
  exact main a w ⟨hs.size, hs.defers, hs.slot, hs.world.extract jj ii hj hi⟩

theorem RdI.ownE {C : Cx} {own : List Asn} {v : Value} {E : TypeId} {n : Nat} {cs : List Value} {xs : List Int} {w : World} (i : Nat) (hw : HW C own w) (hi : own[i]? = some (row v E 1 n cs)) (hn : n = xs.length) (hc : cs = xs.map (Value.int .i64)) : RdI w v xs := by
  subst hn; subst hc; exact RdI.own i hw hi
theorem AK.make1Z {C : Cx} {sl : List (Nat × Value)} {own : List Asn} {ops : Array Oper} {Q : Exit → Act → World → Prop} {ty : TypeId} {pos : String} {aft : Array Edge} {g : Option (Nat × Bool)} {rest : List Oper} {d : Nat} {t E : TypeId} {l c : Operand} {s' by_ : Nat} {z : Value} {n : Int} (ht : SlT C.P t E 1) (hE : ElT C.P E z s' by_) (hz : z.cells = #[z]) (hl : opv ⟨sl, own⟩ l = some (.int .i64 n)) (hc : opv ⟨sl, own⟩ c = some (.int .i64 n)) (h0 : 0 ≤ n)
    (hb : by_ * n.toNat ≤ 281474976710656) (hm : n.toNat ≤ 9223372036854775807) (hg : Grd ops sl g) (hd : Nat.blt d C.N = true)
    (h : ∀ v, AK C ⟨(d, v) :: sl, own ++ [row v E 1 n.toNat (List.replicate n.toNat z)]⟩ (wpList C.P ops Q rest)) :
    AK C ⟨sl, own⟩ (wpList C.P ops Q (⟨some d, .makeSlice t l c, ty, pos, aft, g⟩ :: rest)) :=
  AK.make1 ht hE hz (by rw [hl]; congr 2; omega) (by rw [hc]; congr 2; omega) hb hm hg hd h
theorem Rd.le {G : Nat → Prop} {w : World} {v : Value} {sz n : Nat} {cs : List Value} (h : Rd G w v sz n cs) : n ≤ 9223372036854775807 := by
  obtain ⟨_, _, _, h, _⟩ := h
  simpa [maxLen] using h

theorem matL_nil {E : TypeId} {c : Nat} {w : World} (i : Nat) (A : Asn) (h : (matL E (List.replicate c (.slice none 0 0)) (List.replicate c []))[i]? = some A) : A.holds w (fun _ => False) := by
  have hi : i < c := by have := (List.getElem?_eq_some_iff.1 h).1; simpa [matL] using this
  rw [matL_get (by simp) (by simpa using hi)] at h
  simp [List.getD_eq_getElem?_getD, List.getElem?_replicate, hi] at h
  subst h
  exact ⟨World.ownsRow_nil w 0 E 1, fun b => by simp [Value.ownBlock]⟩
theorem HW.ghostMat {C : Cx} {own : List Asn} {w : World} (E : TypeId) (c : Nat) (h : HW C own w) : HW C (own ++ [bigA (matL E (List.replicate c (.slice none 0 0)) (List.replicate c []))]) w := h.ghostBig _ (fun i A hi => matL_nil i A hi)
theorem RdI8.own {C : Cx} {own : List Asn} {v : Value} {E : TypeId} {xs : List Bool} {w : World} (i : Nat) (hw : HW C own w) (hi : own[i]? = some (row v E 1 xs.length (xs.map Value.bool))) : RdI8 w v xs :=
  (RdS.own (C := C) i hi w hw).mono fun b _ _ => ⟨id, rfl⟩
theorem beq_takeD {α : Type} (d : α) {xs ys : List α} (hl : xs.length = ys.length) (k : Nat) (hk : k < xs.length) (h : xs.take k = ys.take k) : xs.take (k + 1) = ys.take (k + 1) ↔ xs.getD k d = ys.getD k d := by
  rw [take_snocD d xs k hk, take_snocD d ys k (by omega), h]
  simp

theorem AK.ghostM {C : Cx} {sl : List (Nat × Value)} {own : List Asn} {K : Act → World → Prop} (E : TypeId) (h : AK C ⟨sl, own ++ [bigA (matL E [] [])]⟩ K) : AK C ⟨sl, own⟩ K :=
  fun a w hs => h a w ⟨hs.size, hs.defers, hs.slot, hs.world.ghostMat E 0⟩


end Go.Sx
