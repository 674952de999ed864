import Derived.Test.YtoikhoniogicdaaSy
import Derived.Carry
set_option linter.unusedVariables false
set_option linter.unusedSimpArgs false
namespace Go.Sx
open Go.RowKit

/-! ### maps that the call makes -/
section maps
variable {α β : Type} [DecidableEq α]

def fidx (a : α) : List α → Option Nat
  | [] => none
  | b :: l => if a = b then some 0 else (fidx a l).map (· + 1)

def mget (m : List (α × β)) (a : α) : Option β := match m with
  | [] => none
  | (b, v) :: l => if a = b then some v else mget l a

def mset (m : List (α × β)) (a : α) (v : β) : List (α × β) := match m with
  | [] => [(a, v)]
  | (b, u) :: l => if a = b then (a, v) :: l else (b, u) :: mset l a v

theorem mget_nil (a : α) : mget ([] : List (α × β)) a = none := rfl
theorem mget_mset (m : List (α × β)) (a b : α) (v : β) : mget (mset m a v) b = if b = a then some v else mget m b := by
  induction m with
  | nil => simp [mset, mget]
  | cons p m ih =>
    obtain ⟨c, u⟩ := p
    simp only [mset]
    by_cases h : a = c
    · subst h
      simp only [if_true, mget]
      by_cases h2 : b = a <;> simp [h2]
    · simp only [h, if_false, mget]
      by_cases h2 : b = c
      · subst h2; simp [Ne.symm h]
      · simp only [h2, if_false]; exact ih
theorem length_mset (m : List (α × β)) (a : α) (v : β) : (mset m a v).length = if (mget m a).isSome then m.length else m.length + 1 := by
  induction m with
  | nil => simp [mset, mget]
  | cons p m ih =>
    obtain ⟨c, u⟩ := p
    simp only [mset, mget]
    by_cases h : a = c
    · simp [h]
    · simp only [h, if_false, List.length_cons, ih]; split <;> rfl

/-- how a key is found -/
structure KeyL (P : Program) (kt : TypeId) (fk : α → Value) : Prop where
  find : ∀ (a : α) (es : List MapEntry) (ks : List α) (w : World), es.map (·.key) = ks.map fk → (Instr.findKey kt (fk a) es).run P w = .ok ((fidx a ks).bind fun i => (es[i]?).map fun e => (i, e.val)) w
  check : ∀ (e : Bool) (a : α) (w : World), (Instr.checkKey e 10000 kt (fk a)).run P w = .ok () w
  same : ∀ a : α, Instr.sameBits 10000 (fk a) (fk a) = true

/-- block b is a map that holds these -/
def mapA (b : Nat) (kvs : List (Value × Value)) : Asn where
  holds w F := (∃ es clock, w.heap[b]? = some (.map es clock) ∧ es.toList.map (fun e => (e.key, e.val)) = kvs) ∧ ∀ c, F c ↔ c = b
  loc := by
    rintro w w' F ⟨⟨es, clock, h1, h2⟩, hF⟩ hb
    exact ⟨⟨es, clock, by rw [hb b ((hF b).2 rfl)]; exact h1, h2⟩, hF⟩
  lt := by
    rintro w F ⟨⟨es, clock, h1, h2⟩, hF⟩ c hc
    rw [(hF c).1 hc]
    exact (Array.getElem?_eq_some_iff.1 h1).1

def mkv (fk : α → Value) (fv : β → Value) (m : List (α × β)) : List (Value × Value) := m.map fun p => (fk p.1, fv p.2)

theorem fidx_get (m : List (α × β)) (a : α) (fv : β → Value) (es : List MapEntry) (hv : es.map (·.val) = m.map (fun p => fv p.2)) :
    ((fidx a (m.map (·.1))).bind fun i => (es[i]?).map fun e => (i, e.val)).map (·.2) = (mget m a).map fv := by
  induction m generalizing es with
  | nil => simp [fidx, mget]
  | cons p m ih =>
    obtain ⟨c, u⟩ := p
    cases es with
    | nil => simp at hv
    | cons e es =>
      simp at hv
      simp only [List.map_cons, fidx, mget]
      by_cases h : a = c
      · simp [h, hv.1]
      · simp only [h, if_false]
        rw [← ih es (by simpa using hv.2)]
        cases fidx a (m.map (·.1)) <;> simp [Function.comp_def]

theorem fidx_none (m : List (α × β)) (a : α) : fidx a (m.map (·.1)) = none ↔ mget m a = none := by
  induction m with
  | nil => simp [fidx, mget]
  | cons p m ih =>
    obtain ⟨c, u⟩ := p
    simp only [List.map_cons, fidx, mget]
    by_cases h : a = c
    · simp [h]
    · simp [h, ih]

theorem fidx_set (m : List (α × β)) (a : α) (v : β) (i : Nat) (h : fidx a (m.map (·.1)) = some i) : mset m a v = m.set i (a, v) ∧ i < m.length ∧ (m[i]?).map (·.1) = some a := by
  induction m generalizing i with
  | nil => simp [fidx] at h
  | cons p m ih =>
    obtain ⟨c, u⟩ := p
    simp only [List.map_cons, fidx] at h
    by_cases hc : a = c
    · simp [hc] at h; subst h; simp [mset, hc]
    · simp only [hc, if_false, Option.map_eq_some_iff] at h
      obtain ⟨j, hj, rfl⟩ := h
      obtain ⟨h1, h2, h3⟩ := ih j hj
      rw [List.getElem?_eq_getElem h2] at h3
      simp at h3
      simp [mset, hc, h1, h2, h3]

theorem mset_none (m : List (α × β)) (a : α) (v : β) (h : mget m a = none) : mset m a v = m ++ [(a, v)] := by
  induction m with
  | nil => rfl
  | cons p m ih =>
    obtain ⟨c, u⟩ := p
    simp only [mget] at h
    by_cases hc : a = c
    · simp [hc] at h
    · simp only [hc, if_false] at h; simp [mset, hc, ih h]

/-- a map value in a slot: nil, or the block b -/
def MapS (C : Cx) (own : List Asn) (v : Value) (kvs : List (Value × Value)) : Prop :=
  ∀ w, HW C own w → (v = .map none ∧ kvs = []) ∨ ∃ b es clock, v = .map (some b) ∧ w.heap[b]? = some (.map es clock) ∧ es.toList.map (fun e => (e.key, e.val)) = kvs

theorem MapS.own {C : Cx} {own : List Asn} {b : Nat} {kvs : List (Value × Value)} (i : Nat) (hi : own[i]? = some (mapA b kvs)) : MapS C own (.map (some b)) kvs := fun w hw => by
  obtain ⟨_, Fs, hh, _⟩ := hw
  obtain ⟨⟨es, clock, h1, h2⟩, _⟩ := hh.at_ i _ hi
  exact .inr ⟨b, es, clock, rfl, h1, h2⟩
theorem MapS.nil {C : Cx} {own : List Asn} : MapS C own (.map none) [] := fun w hw => .inl ⟨rfl, rfl⟩

section ops
variable {C : Cx} {sl : List (Nat × Value)} {own : List Asn} {dst : Option Nat} {ty : TypeId} {pos : String} {aft : Array Edge} {g : Option (Nat × Bool)}

omit [DecidableEq α] in
theorem mkv_split {fk : α → Value} {fv : β → Value} {m : List (α × β)} {es : List MapEntry} (h : es.map (fun e => (e.key, e.val)) = mkv fk fv m) : es.map (·.key) = (m.map (·.1)).map fk ∧ es.map (·.val) = m.map (fun p => fv p.2) := by
  have h1 := congrArg (List.map Prod.fst) h
  have h2 := congrArg (List.map Prod.snd) h
  simp [mkv, Function.comp_def] at h1 h2 ⊢
  exact ⟨h1, h2⟩

theorem run_lookup_kv {P : Program} {w : World} {t kt et : TypeId} {v : Value} {z : Value} {sz by_ : Nat} {fk : α → Value} {fv : β → Value} {m : List (α × β)} (ht : P.underlying t = some (.map kt et)) (K : KeyL P kt fk) (hz : ElT P et z sz by_)
    (hm : (v = .map none ∧ mkv fk fv m = []) ∨ ∃ b es clock, v = .map (some b) ∧ w.heap[b]? = some (.map es clock) ∧ es.toList.map (fun e => (e.key, e.val)) = mkv fk fv m) (a : α) (ok : Bool) :
    (Instr.lookup t v (fk a) ok).run P w = .ok (if ok then .tuple #[((mget m a).map fv).getD z, .bool (mget m a).isSome] else ((mget m a).map fv).getD z) w := by
  obtain ⟨inf, hi1, hi2, _, _⟩ := hz.inf
  have hzero : (zeroValue et).run P w = .ok z w := by simp [zeroValue, typeInfo, hi1, hi2]
  have core : ∀ (es : Array MapEntry), es.toList.map (fun e => (e.key, e.val)) = mkv fk fv m →
      ∃ r, (Instr.findKey kt (fk a) es.toList).run P w = .ok r w ∧ ((r = none ∧ mget m a = none) ∨ ∃ i b, r = some (i, fv b) ∧ mget m a = some b) := by
    intro es hes
    obtain ⟨h1, h2⟩ := mkv_split hes
    have hf := K.find a es.toList (m.map (·.1)) w h1
    have hg := fidx_get m a fv es.toList h2
    refine ⟨_, hf, ?_⟩
    cases hx : ((fidx a (m.map (·.1))).bind fun i => (es.toList[i]?).map fun e => (i, e.val)) with
    | none =>
      rw [hx] at hg
      left
      refine ⟨rfl, ?_⟩
      cases h : mget m a <;> simp [h] at hg ⊢
    | some p =>
      obtain ⟨i, u⟩ := p
      rw [hx] at hg
      cases h : mget m a with
      | none => simp [h] at hg
      | some b => simp [h] at hg; exact .inr ⟨i, b, by rw [hg], rfl⟩
  rcases hm with ⟨rfl, hm⟩ | ⟨b, es, clock, rfl, hb, hes⟩
  · obtain ⟨r, hf, hr⟩ := core #[] (by simpa using hm.symm)
    have hc := K.check true a w
    rcases hr with ⟨rfl, hr⟩ | ⟨i, b, rfl, hr⟩
    · simp [Instr.lookup, run_underlying ht, hc, hf, hzero, hr]
    · simp [Instr.lookup, run_underlying ht, hc, hf, hr]
  · obtain ⟨r, hf, hr⟩ := core es hes
    have hget : (getObj b).run P w = .ok (.map es clock) w := by simp [getObj, Sem.run, hb]
    have hc := K.check es.isEmpty a w
    rcases hr with ⟨rfl, hr⟩ | ⟨i, b, rfl, hr⟩
    · simp [Instr.lookup, run_underlying ht, hget, hc, hf, hzero, hr]
    · simp [Instr.lookup, run_underlying ht, hget, hc, hf, hr]

theorem Yl.lookup2 {x y : Operand} {t kt et : TypeId} {v z : Value} {sz by_ : Nat} {fk : α → Value} {fv : β → Value} {m : List (α × β)} {a : α} (ht : C.P.underlying t = some (.map kt et)) (K : KeyL C.P kt fk) (hz : ElT C.P et z sz by_) (hx : opv ⟨sl, own⟩ x = some v) (hy : opv ⟨sl, own⟩ y = some (fk a))
    (hm : MapS C own v (mkv fk fv m)) : Yl C ⟨sl, own⟩ ⟨dst, .lookup t x y true, ty, pos, aft, g⟩ (.tuple #[((mget m a).map fv).getD z, .bool (mget m a).isSome]) :=
  fun ac w hs => by
    have := run_lookup_kv ht K hz (hm w hs.world) a true
    simp only [execOp, opv_eval hs hx, opv_eval hs hy, Sem.run_bind, this, Result.andThen_ok, Sem.run_pure, if_true]
theorem Yl.lookup1 {x y : Operand} {t kt et : TypeId} {v z : Value} {sz by_ : Nat} {fk : α → Value} {fv : β → Value} {m : List (α × β)} {a : α} (ht : C.P.underlying t = some (.map kt et)) (K : KeyL C.P kt fk) (hz : ElT C.P et z sz by_) (hx : opv ⟨sl, own⟩ x = some v) (hy : opv ⟨sl, own⟩ y = some (fk a))
    (hm : MapS C own v (mkv fk fv m)) : Yl C ⟨sl, own⟩ ⟨dst, .lookup t x y false, ty, pos, aft, g⟩ (((mget m a).map fv).getD z) :=
  fun ac w hs => by
    have := run_lookup_kv ht K hz (hm w hs.world) a false
    simp only [execOp, opv_eval hs hx, opv_eval hs hy, Sem.run_bind, this, Result.andThen_ok, Sem.run_pure, Bool.false_eq_true, if_false]

theorem Yl.lookup2I {x y : Operand} {t kt et : TypeId} {v : Value} {q : IntKind} {sz by_ : Nat} {fk : α → Value} {m : List (α × Int)} {a : α} (ht : C.P.underlying t = some (.map kt et)) (K : KeyL C.P kt fk) (hz : ElT C.P et (.int q 0) sz by_) (hx : opv ⟨sl, own⟩ x = some v) (hy : opv ⟨sl, own⟩ y = some (fk a))
    (hm : MapS C own v (mkv fk (Value.int q) m)) : Yl C ⟨sl, own⟩ ⟨dst, .lookup t x y true, ty, pos, aft, g⟩ (.tuple #[.int q ((mget m a).getD 0), .bool (mget m a).isSome]) := by
  have := Yl.lookup2 (dst := dst) (ty := ty) (pos := pos) (aft := aft) (g := g) ht K hz hx hy hm
  cases h : mget m a <;> simpa [h] using this
theorem Yl.lookup1I {x y : Operand} {t kt et : TypeId} {v : Value} {q : IntKind} {sz by_ : Nat} {fk : α → Value} {m : List (α × Int)} {a : α} (ht : C.P.underlying t = some (.map kt et)) (K : KeyL C.P kt fk) (hz : ElT C.P et (.int q 0) sz by_) (hx : opv ⟨sl, own⟩ x = some v) (hy : opv ⟨sl, own⟩ y = some (fk a))
    (hm : MapS C own v (mkv fk (Value.int q) m)) : Yl C ⟨sl, own⟩ ⟨dst, .lookup t x y false, ty, pos, aft, g⟩ (.int q ((mget m a).getD 0)) := by
  have := Yl.lookup1 (dst := dst) (ty := ty) (pos := pos) (aft := aft) (g := g) ht K hz hx hy hm
  cases h : mget m a <;> simpa [h] using this

omit [DecidableEq α] in
theorem Yl.lenM {x : Operand} {t kt et : TypeId} {v : Value} {fk : α → Value} {fv : β → Value} {m : List (α × β)} (ht : C.P.underlying t = some (.map kt et)) (hx : opv ⟨sl, own⟩ x = some v) (hm : MapS C own v (mkv fk fv m)) :
    Yl C ⟨sl, own⟩ ⟨dst, .call ⟨.builtin .len, #[x], #[t]⟩, ty, pos, aft, g⟩ (.int .i64 (m.length : Int)) :=
  fun a w hs => by
    rcases hm w hs.world with ⟨rfl, h⟩ | ⟨b, es, clock, rfl, hb, hes⟩
    · have : m = [] := by simpa [mkv] using h
      subst this
      simp [execOp, resolve, invoke, builtin, opv_eval hs hx, Builtin.len_, run_underlying ht, goInt]
    · have hget : (getObj b).run C.P w = .ok (.map es clock) w := by simp [getObj, Sem.run, hb]
      have hl : es.size = m.length := by have := congrArg List.length hes; simpa [mkv] using this
      simp [execOp, resolve, invoke, builtin, opv_eval hs hx, Builtin.len_, run_underlying ht, goInt, hget, hl]
end ops

section eff
variable {C : Cx} {sl : List (Nat × Value)} {own : List Asn} {ops : Array Oper} {Q : Exit → Act → World → Prop} {ty : TypeId} {pos : String} {aft : Array Edge} {g : Option (Nat × Bool)} {rest : List Oper}

theorem AK.makeMap {d : Nat} {t : TypeId} (hg : Grd ops sl g) (hd : Nat.blt d C.N = true)
    (h : ∀ b, AK C ⟨(d, .map (some b)) :: sl, own ++ [mapA b []]⟩ (wpList C.P ops Q rest)) : AK C ⟨sl, own⟩ (wpList C.P ops Q (⟨some d, .makeMap t none, ty, pos, aft, g⟩ :: rest)) := by
  intro a w hs
  refine wpList_step fun K hK => ?_
  rw [if_pos (wanted_of_Grd hs hg)]
  have hrun : (execOp a.eval ⟨some d, .makeMap t none, ty, pos, aft, g⟩).run C.P w = .ok (.value (.map (some w.heap.size))) (w.alloc (.map #[] 0)) := by
    simp only [execOp, Option.map_none, Sem.run_bind, run_makeMap, Result.andThen_ok, Sem.run_pure]
  simp only [Oper.wp, hrun, Oper.upon]
  refine hK _ _ (h w.heap.size _ _ ?_)
  refine hs.put (hs.world.push (own2 := [mapA w.heap.size []]) (.ofGrown (World.grownBy_alloc w _ none) (by simp)) (HeapAt.one (F := fun c => c = w.heap.size) ⟨⟨#[], 0, heap_alloc_new w _, rfl⟩, fun _ => Iff.rfl⟩) (fun j b hb => by rw [hb.2]; exact Nat.le_refl _)) (d := some d) (fun i hi => by cases hi; simpa [Nat.blt_eq] using hd) _

theorem setObj_old {w : World} {b k : Nat} {o : Obj} (h : k ≠ b) : ({ w with heap := w.heap.setIfInBounds b o } : World).heap[k]? = w.heap[k]? := by
  simp [Array.getElem?_setIfInBounds, Ne.symm h]

theorem AK.mapSet (i : Nat) {t kt et : TypeId} {x y z : Operand} {b : Nat} {fk : α → Value} {fv : β → Value} {m : List (α × β)} {a : α} {v : β} (hi : own[i]? = some (mapA b (mkv fk fv m))) (ht : C.P.underlying t = some (.map kt et)) (K : KeyL C.P kt fk) (hx : opv ⟨sl, own⟩ x = some (.map (some b))) (hy : opv ⟨sl, own⟩ y = some (fk a)) (hz : opv ⟨sl, own⟩ z = some (fv v)) (hg : Grd ops sl g)
    (h : AK C ⟨sl, own.set i (mapA b (mkv fk fv (mset m a v)))⟩ (wpList C.P ops Q rest)) : AK C ⟨sl, own⟩ (wpList C.P ops Q (⟨none, .mapUpdate t x y z, ty, pos, aft, g⟩ :: rest)) := by
  intro ac w hs
  refine wpList_step fun K' hK => ?_
  rw [if_pos (wanted_of_Grd hs hg)]
  obtain ⟨hf, Fs, hh, hal⟩ := hs.world
  have hA := hh.at_ i _ hi
  obtain ⟨⟨es, clock, hb, hes⟩, hF⟩ := hA
  obtain ⟨h1, h2⟩ := mkv_split hes
  have hfind := K.find a es.toList (m.map (·.1)) w h1
  have hget : (getObj b).run C.P w = .ok (.map es clock) w := by simp [getObj, Sem.run, hb]
  have hset : ∀ o, (setObj b o).run C.P w = .ok () { w with heap := w.heap.setIfInBounds b o } := fun o => by simp [setObj, Sem.run, hb]
  have hblt : b < w.heap.size := (Array.getElem?_eq_some_iff.1 hb).1
  have key : ∃ es' clock', (Instr.mapUpdate t (.map (some b)) (fk a) (fv v)).run C.P w = .ok () { w with heap := w.heap.setIfInBounds b (.map es' clock') } ∧ es'.toList.map (fun e => (e.key, e.val)) = mkv fk fv (mset m a v) := by
    simp only [Instr.mapUpdate, Sem.run_bind, run_underlying ht, Result.andThen_ok, hget, K.check, hfind]
    cases hi' : fidx a (m.map (·.1)) with
    | none =>
      refine ⟨es.push { key := fk a, val := fv v, born := clock }, clock + 1, ?_, ?_⟩
      · simp [hset]
      · rw [mset_none m a v ((fidx_none m a).1 hi')]
        simp [mkv] at hes ⊢
        exact hes
    | some j =>
      obtain ⟨e1, e2, e3⟩ := fidx_set m a v j hi'
      have hlen : es.size = m.length := by have := congrArg List.length hes; simpa [mkv] using this
      have hj : j < es.size := by omega
      have hkey : es[j].key = fk a := by
        have := congrArg (fun l => l[j]?) h1
        simp [List.getElem?_map, hj, e2] at this
        have e3' : m[j].1 = a := by simpa [e2] using e3
        rw [this, e3']
      refine ⟨es.modify j fun e => { e with key := fk a, val := fv v }, clock, ?_, ?_⟩
      · simp [hj, Instr.keyThatStays, hkey, K.same, hset]
      · rw [e1]
        apply List.ext_getElem?
        intro k
        have hk := congrArg (fun l => l[k]?) hes
        simp only [mkv, List.getElem?_map, Array.getElem?_toList, Array.getElem?_modify, List.getElem?_set] at hk ⊢
        by_cases hkj : j = k
        · subst hkj
          simp [hj, e2]
        · simp only [hkj, if_false]; exact hk
  obtain ⟨es', clock', hrun, hes'⟩ := key
  have hrun' : (execOp ac.eval ⟨none, .mapUpdate t x y z, ty, pos, aft, g⟩).run C.P w = .ok .skip { w with heap := w.heap.setIfInBounds b (.map es' clock') } := by
    simp only [execOp, opv_eval hs hx, opv_eval hs hy, opv_eval hs hz, Sem.run_bind, hrun, Result.andThen_ok, Sem.run_pure]
  simp only [Oper.wp, hrun', Oper.upon]
  refine hK _ _ (h _ _ ?_)
  have hlt : i < own.length := (List.getElem?_eq_some_iff.1 hi).1
  have hup := HW.update (w' := { w with heap := w.heap.setIfInBounds b (.map es' clock') }) (own2 := []) (A' := mapA b (mkv fk fv (mset m a v))) hf hh hal hlt
    ⟨rfl, rfl, rfl, by simp, fun k _ hk => setObj_old (fun e => hk (by rw [e]; exact (hF b).2 rfl))⟩
    (HeapAt.one (F := fun c => c = b) ⟨⟨es', clock', by simp [hblt], hes'⟩, fun _ => Iff.rfl⟩) (fun k c hc => .inl ((hF c).2 hc.2))
  rw [List.append_nil] at hup
  exact hs.put hup (d := none) (fun i hi => by cases hi) undef
end eff

/-- integers as keys -/
theorem keyInt {P : Program} {kt : TypeId} {q : IntKind} (hk : P.underlying kt = some (.int q)) : KeyL P kt (Value.int q) where
  find := by
    intro a es ks w h
    have now : ∀ (es : List MapEntry) (ks : List Int) (j : Nat), es.map (·.key) = ks.map (Value.int q) → Instr.findNow (.int q) (.int q a) es j = some ((fidx a ks).bind fun i => (es[i]?).map fun e => (j + i, e.val)) := by
      intro es
      induction es with
      | nil => intro ks j h; cases ks with
        | nil => simp [Instr.findNow, fidx]
        | cons k ks => simp at h
      | cons e es ih =>
        intro ks j h
        cases ks with
        | nil => simp at h
        | cons k ks =>
          simp at h
          simp only [Instr.findNow, h.1, Instr.sameNow, if_true, fidx]
          by_cases hak : a = k
          · simp [hak]
          · have : (a == k) = false := by simpa using hak
            simp only [this, hak, if_false]
            rw [ih ks (j + 1) (by simpa using h.2)]
            cases fidx a ks with
            | none => simp
            | some i =>
              simp only [Option.map_some, Option.bind_some, List.getElem?_cons_succ]
              cases es[i]? with
              | none => rfl
              | some e' => simp; omega
    simp only [Instr.findKey, Sem.run_bind, run_underlying hk, Result.andThen_ok, now es ks 0 h]
    simp
  check := by
    intro e a w
    have : ∀ n, (Instr.checkKey e (n + 1) kt (Value.int q a)).run P w = .ok () w := fun n => by simp [Instr.checkKey, run_underlying hk]
    exact this 9999
  same := by
    intro a
    have : ∀ n, Instr.sameBits n (Value.int q a) (Value.int q a) = true := fun n => by cases n <;> simp [Instr.sameBits]
    exact this 10000

end maps


end Go.Sx
