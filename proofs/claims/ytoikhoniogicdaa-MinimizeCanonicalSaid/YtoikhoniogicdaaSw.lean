import Derived.Test.YtoikhoniogicdaaSz
import Derived.Laws.Tables
set_option linter.unusedVariables false
set_option linter.unusedSimpArgs false
namespace Go.Sx
open Go.RowKit

/-! ### boxes: variables in memory -/
/-- block b holds a variable of type E: its sz cells are cs -/
def box (b : Nat) (E : TypeId) (sz : Nat) (cs : List Value) : Asn where
  holds w F := (w.heap[b]? = some (.cells cs.toArray E (0, 0)) ∧ cs.length = sz) ∧ ∀ c, F c ↔ c = b
  loc := by
    rintro w w' F ⟨⟨h1, h2⟩, hF⟩ hb
    exact ⟨⟨by rw [hb b ((hF b).2 rfl)]; exact h1, h2⟩, hF⟩
  lt := by
    rintro w F ⟨⟨h1, h2⟩, hF⟩ c hc
    rw [(hF c).1 hc]
    exact (Array.getElem?_eq_some_iff.1 h1).1

def BoxS (C : Cx) (own : List Asn) (b : Nat) (cs : List Value) : Prop := ∀ w, HW C own w → ∃ E, w.heap[b]? = some (.cells cs.toArray E (0, 0))
theorem BoxS.own {C : Cx} {own : List Asn} {b : Nat} {E : TypeId} {sz : Nat} {cs : List Value} (i : Nat) (hi : own[i]? = some (box b E sz cs)) : BoxS C own b cs := fun w hw => by
  obtain ⟨_, Fs, hh, _⟩ := hw
  exact ⟨E, (hh.at_ i _ hi).1.1⟩

section boxes
variable {C : Cx} {sl : List (Nat × Value)} {own : List Asn} {dst : Option Nat} {ty : TypeId} {pos : String} {aft : Array Edge} {g : Option (Nat × Bool)}

def ArrT (P : Program) (t e n sz : Nat) : Prop := P.underlying t = some (.array n e) ∧ (P.info? e).map (·.size) = some sz

theorem Yl.idxArr {x i : Operand} {t e n sz b off : Nat} (k : Nat) (ht : ArrT C.P t e n sz) (hx : opv ⟨sl, own⟩ x = some (.pointer (some ⟨b, off, none⟩))) (hi : opv ⟨sl, own⟩ i = some (.int .i64 (k : Int))) (hk : k < n) :
    Yl C ⟨sl, own⟩ ⟨dst, .indexAddr t x i, ty, pos, aft, g⟩ (.pointer (some ⟨b, off + k * sz, none⟩)) :=
  fun a w hs => by
    have hs1 := run_sizeOf_of ht.2 w
    have h0 : (0 : Int) ≤ (k : Int) ∧ (k : Int) < (n : Int) := by omega
    simp only [execOp, opv_eval hs hx, opv_eval hs hi, Instr.indexAt, asIntOf, Sem.run_bind, Sem.run_pure, Result.andThen_ok, run_underlying ht.1, Instr.sureAddr]
    simp [h0.1, h0.2, hs1, Addr.add_lit, run_underlying ht.1, hk]

theorem Yl.idxArrZ {x i : Operand} {t e n sz b off : Nat} {k : Int} (ht : ArrT C.P t e n sz) (hx : opv ⟨sl, own⟩ x = some (.pointer (some ⟨b, off, none⟩))) (hi : opv ⟨sl, own⟩ i = some (.int .i64 k)) (hk : 0 ≤ k ∧ k < n) :
    Yl C ⟨sl, own⟩ ⟨dst, .indexAddr t x i, ty, pos, aft, g⟩ (.pointer (some ⟨b, off + k.toNat * sz, none⟩)) :=
  Yl.idxArr k.toNat ht hx (by rw [hi]; congr 2; omega) (by omega)

theorem Yl.loadBox {x : Operand} {t b off : Nat} {cs : List Value} {u : Value} (ht : OneT C.P t) (hx : opv ⟨sl, own⟩ x = some (.pointer (some ⟨b, off, none⟩))) (hb : BoxS C own b cs) (hu : cs[off]? = some u) :
    Yl C ⟨sl, own⟩ ⟨dst, .load t x, ty, pos, aft, g⟩ u :=
  fun a w hs => by
    obtain ⟨E, hb⟩ := hb w hs.world
    have h1 : w.cell? ⟨b, off, none⟩ = some u := by rw [cell_of_row w b off _ E (0, 0) hb]; simpa using hu
    simp [execOp, opv_eval hs hx, Instr.loadAt, Instr.sureAddr, run_loadVar_one ht h1]

theorem Yl.loadBoxG {x : Operand} {t b off sz : Nat} {cs us : List Value} (ht : AggT C.P t sz) (hx : opv ⟨sl, own⟩ x = some (.pointer (some ⟨b, off, none⟩))) (hb : BoxS C own b cs) (hu : (cs.drop off).take sz = us) (hl : us.length = sz) :
    Yl C ⟨sl, own⟩ ⟨dst, .load t x, ty, pos, aft, g⟩ (.agg us.toArray) :=
  fun a w hs => by
    obtain ⟨E, hb⟩ := hb w hs.world
    have hl' := run_loadCells_list (P := C.P) (w := w) ⟨b, off, none⟩ us (fun i u hi => by
      rw [Addr.add_lit, cell_of_row w b _ _ E (0, 0) hb]
      rw [← hu, List.getElem?_take] at hi
      split at hi
      · rw [List.getElem?_drop] at hi; simpa using hi
      · cases hi)
    rw [hl] at hl'
    simp only [execOp, opv_eval hs hx]
    simp [Instr.loadAt, Instr.sureAddr, loadVar, run_isAgg_agg ht, run_sizeOf_of ht.2, hl']

def FldT (P : Program) (s f off : Nat) : Prop := ∃ fs fd, P.underlying s = some (.struct fs) ∧ fs[f]? = some fd ∧ fd.offset = off ∧ (P.info? fd.type).map (fun i => decide (i.size = 0)) = some false

theorem Yl.fieldAddr {x : Operand} {s f b off fo : Nat} (ht : FldT C.P s f fo) (hx : opv ⟨sl, own⟩ x = some (.pointer (some ⟨b, off, none⟩))) :
    Yl C ⟨sl, own⟩ ⟨dst, .fieldAddr s x f, ty, pos, aft, g⟩ (.pointer (some ⟨b, off + fo, none⟩)) :=
  fun a w hs => by
    obtain ⟨fs, fd, h1, h2, h3, h4⟩ := ht
    cases hi : C.P.info? fd.type with
    | none => simp [hi] at h4
    | some i =>
      simp [hi] at h4
      have hsz : (sizeOf fd.type).run C.P w = .ok i.size w := by simp [sizeOf, typeInfo, hi]
      simp [execOp, opv_eval hs hx, Instr.fieldAt, run_underlying h1, h2, Instr.sureAddr, fieldPlace, hsz, h4, h3, Addr.add_lit]

/-- a field of a struct by value -/
theorem Yl.field {x : Operand} {s f : Nat} {cs : List Value} {fs : Array Field} {fd : Field} {u : Value} (h1 : C.P.underlying s = some (.struct fs)) (h2 : fs[f]? = some fd) (h3 : OneT C.P fd.type) (hx : opv ⟨sl, own⟩ x = some (.agg cs.toArray)) (hu : cs[fd.offset]? = some u) :
    Yl C ⟨sl, own⟩ ⟨dst, .field s x f, ty, pos, aft, g⟩ u :=
  fun a w hs => by
    simp [execOp, opv_eval hs hx, Instr.field, run_underlying h1, h2, asAgg, part, run_isAgg_one h3, hu]

theorem Yl.build {t : Nat} {parts : List (Nat × Operand)} {vs : List Value} {cs : Array Value} (hx : opvs ⟨sl, own⟩ (parts.map (·.2)) = some vs) (hb : C.P.built t ((parts.map (·.1)).zip vs) = some cs) :
    Yl C ⟨sl, own⟩ ⟨dst, .build t parts.toArray, ty, pos, aft, g⟩ (.agg cs) :=
  fun a w hs => by
    have he := opvs_eval hs hx
    have hp : (parts.toArray.map fun x => (x.1, a.eval x.2)) = ((parts.map (·.1)).zip vs).toArray := by
      rw [← he]; clear hx he hb
      simp
      induction parts with
      | nil => rfl
      | cons p l ih => simp [ih]
    have := run_build (P := C.P) w t ((parts.map (·.1)).zip vs).toArray cs (by simpa using hb)
    have hp' : (parts.toArray.map fun x => match x with | (i, x) => (i, a.eval x)) = ((parts.map (·.1)).zip vs).toArray := hp
    simp only [execOp, hp', Sem.run_bind, this, Result.andThen_ok, Sem.run_pure]
end boxes

section boxeff
variable {C : Cx} {sl : List (Nat × Value)} {own : List Asn} {ops : Array Oper} {Q : Exit → Act → World → Prop} {ty : TypeId} {pos : String} {aft : Array Edge} {g : Option (Nat × Bool)} {rest : List Oper}

theorem AK.newBlock {d : Nat} {op : Op} {E sz : Nat} {cs : List Value} (hrun : ∀ a w, Sim C ⟨sl, own⟩ a w → (execOp a.eval ⟨some d, op, ty, pos, aft, g⟩).run C.P w = .ok (.value (.pointer (some ⟨w.heap.size, 0, none⟩))) (w.alloc (.cells cs.toArray E))) (hl : cs.length = sz) (hg : Grd ops sl g) (hd : Nat.blt d C.N = true)
    (h : ∀ b, AK C ⟨(d, .pointer (some ⟨b, 0, none⟩)) :: sl, own ++ [box b E sz cs]⟩ (wpList C.P ops Q rest)) : AK C ⟨sl, own⟩ (wpList C.P ops Q (⟨some d, op, ty, pos, aft, g⟩ :: rest)) := by
  intro a w hs
  refine wpList_step fun K hK => ?_
  rw [if_pos (wanted_of_Grd hs hg)]
  simp only [Oper.wp, hrun a w hs, Oper.upon]
  refine hK _ _ (h w.heap.size _ _ ?_)
  refine hs.put (hs.world.push (own2 := [box w.heap.size E sz cs]) (.ofGrown (World.grownBy_alloc w _ none) (by simp)) (HeapAt.one (F := fun c => c = w.heap.size) ⟨⟨heap_alloc_new w _, hl⟩, fun _ => Iff.rfl⟩) (fun j b hb => by rw [hb.2]; exact Nat.le_refl _)) (d := some d) (fun i hi => by cases hi; simpa [Nat.blt_eq] using hd) _

theorem AK.alloc {d E sz by_ : Nat} {z : Value} {cs : List Value} (hE : ElT C.P E z sz by_) (hc : z.cells.toList = cs) (hl : cs.length = sz) (hg : Grd ops sl g) (hd : Nat.blt d C.N = true)
    (h : ∀ b, AK C ⟨(d, .pointer (some ⟨b, 0, none⟩)) :: sl, own ++ [box b E sz cs]⟩ (wpList C.P ops Q rest)) : AK C ⟨sl, own⟩ (wpList C.P ops Q (⟨some d, .alloc E, ty, pos, aft, g⟩ :: rest)) := by
  refine AK.newBlock (fun a w hs => ?_) hl hg hd h
  obtain ⟨inf, hi1, hi2, _, _⟩ := hE.inf
  have hz : (zeroValue E).run C.P w = .ok z w := by simp [zeroValue, typeInfo, hi1, hi2]
  subst hc
  simp [execOp, Instr.alloc, hz, newVar, newRow]

theorem AK.box_ {d E sz : Nat} {x : Operand} {v : Value} {cs : List Value} (hx : opv ⟨sl, own⟩ x = some v) (hc : v.cells.toList = cs) (hl : cs.length = sz) (hg : Grd ops sl g) (hd : Nat.blt d C.N = true)
    (h : ∀ b, AK C ⟨(d, .pointer (some ⟨b, 0, none⟩)) :: sl, own ++ [box b E sz cs]⟩ (wpList C.P ops Q rest)) : AK C ⟨sl, own⟩ (wpList C.P ops Q (⟨some d, .box E x, ty, pos, aft, g⟩ :: rest)) := by
  refine AK.newBlock (fun a w hs => ?_) hl hg hd h
  subst hc
  simp [execOp, opv_eval hs hx, Instr.box, newVar, newRow]

theorem spl_whole {cs us : List Value} (h : us.length = cs.length) : cs.take 0 ++ us ++ cs.drop (0 + us.length) = us := by simp [h]

/-- a store into a box: the cells us from off on -/
theorem AK.storeBox (i : Nat) {t E sz b off m : Nat} {x y : Operand} {v : Value} {cs us cs' : List Value} (hi : own[i]? = some (box b E sz cs)) (hs1 : (C.P.info? t).map (·.size) = some m) (hx : opv ⟨sl, own⟩ x = some (.pointer (some ⟨b, off, none⟩))) (hy : opv ⟨sl, own⟩ y = some v)
    (hu : v.cells.toList = us) (hm : us.length = m) (h1 : one' us) (hfit : off + us.length ≤ cs.length) (hcs : cs.take off ++ us ++ cs.drop (off + us.length) = cs') (hg : Grd ops sl g) (h : AK C ⟨sl, own.set i (box b E sz cs')⟩ (wpList C.P ops Q rest)) :
    AK C ⟨sl, own⟩ (wpList C.P ops Q (⟨none, .store t x y, ty, pos, aft, g⟩ :: rest)) := by
  intro a w hs
  refine wpList_step fun K hK => ?_
  rw [if_pos (wanted_of_Grd hs hg)]
  obtain ⟨hf, Fs, hh, hal⟩ := hs.world
  have hA := hh.at_ i _ hi
  obtain ⟨⟨hb, hl⟩, hF⟩ := hA
  have hst : (storeCells ⟨b, off, none⟩ us).run C.P w = .ok () (w.setRow b (cs.take off ++ us ++ cs.drop (off + us.length)).toArray) := run_storeCells_at C.P b off E us 0 cs.toArray w hb (by simpa using hfit) h1
  have hvs : v.cells.size = m := by rw [← hm, ← hu]; simp
  have hrun : (execOp a.eval ⟨none, .store t x y, ty, pos, aft, g⟩).run C.P w = .ok .skip (w.setRow b cs'.toArray) := by
    simp only [execOp, opv_eval hs hx, opv_eval hs hy, Instr.storeAt, Instr.sureAddr, storeVar, Sem.run_bind, Sem.run_pure, Result.andThen_ok, run_sizeOf_of hs1, hu, hvs]
    simp only [ne_eq, not_true_eq_false, if_false, Sem.run_bind, Sem.run_pure, Result.andThen_ok, hst]
    rw [← hcs]
  simp only [Oper.wp, hrun, Oper.upon]
  refine hK _ _ (h _ _ ?_)
  have hlt : i < own.length := (List.getElem?_eq_some_iff.1 hi).1
  have hl' : cs'.length = sz := by rw [← hcs, ← hl]; simp; omega
  have hup := HW.update (w' := w.setRow b cs'.toArray) (own2 := []) (A' := box b E sz cs') hf hh hal hlt ⟨rfl, rfl, rfl, by simp, fun k _ hk => setRow_other w b k _ (fun e => hk (by rw [e]; exact (hF b).2 rfl))⟩
    (HeapAt.one (F := fun c => c = b) ⟨⟨setRow_heap w b _ _ E _ hb, hl'⟩, fun _ => Iff.rfl⟩) (fun k c hc => .inl ((hF c).2 hc.2))
  rw [List.append_nil] at hup
  exact hs.put hup (d := none) (fun i hi => by cases hi) undef

theorem take_spl {α : Type} (L us : List α) (a s N : Nat) (hu : us.length = s) (h1 : a + s ≤ N) (h2 : N ≤ L.length) : (L.take a ++ us ++ L.drop (a + s)).take N = (L.take N).take a ++ us ++ (L.take N).drop (a + s) := by
  have e1 : (L.take N).take a = L.take a := by rw [List.take_take, Nat.min_eq_left (by omega)]
  have e3 : (L.take a ++ us ++ L.drop (a + s)).take N = L.take a ++ us ++ (L.drop (a + s)).take (N - (a + s)) := by
    rw [List.take_append, List.take_of_length_le (by simp; omega)]
    congr 2
    simp; omega
  rw [e1, e3, List.drop_take]

/-- a store of a value of several cells into a slice that is owned -/
theorem AK.storeG (i : Nat) {t E sz : Nat} {x y : Operand} {v u : Value} {n j : Nat} {cs us cs' : List Value} (hi : own[i]? = some (row v E sz n cs)) (hs1 : (C.P.info? t).map (·.size) = some sz) (hx : opv ⟨sl, own⟩ x = some (.pointer (some ((slA v).add (j * sz))))) (hy : opv ⟨sl, own⟩ y = some u)
    (hu : u.cells.toList = us) (hm : us.length = sz) (h1 : one' us) (hj : j < n) (hcs : cs.take (j * sz) ++ us ++ cs.drop (j * sz + sz) = cs') (hg : Grd ops sl g) (h : AK C ⟨sl, own.set i (row v E sz n cs')⟩ (wpList C.P ops Q rest)) :
    AK C ⟨sl, own⟩ (wpList C.P ops Q (⟨none, .store t x y, ty, pos, aft, g⟩ :: rest)) := by
  intro a w hs
  refine wpList_step fun K hK => ?_
  rw [if_pos (wanted_of_Grd hs hg)]
  obtain ⟨hf, Fs, hh, hal⟩ := hs.world
  have hA := hh.at_ i _ hi
  obtain ⟨hown, hF⟩ := hA
  rcases hown.2 with ⟨rfl, rfl⟩ | ⟨gb, cap, cur, rfl, hb0, hb, hnc, hcm, hcsz, htake⟩
  · omega
  have ha : ((slA (.slice (some ⟨gb, 0, none⟩) n cap)).add (j * sz)) = ⟨gb, j * sz, none⟩ := by simp [slA, Addr.add_lit]
  rw [ha] at hx
  have hfit : j * sz + sz ≤ n * sz := by rw [← Nat.succ_mul]; exact Nat.mul_le_mul_right _ hj
  have hnsz : n * sz ≤ cap * sz := Nat.mul_le_mul_right _ hnc
  have hst := run_storeCells_at C.P gb (j * sz) E us 0 cur w hb (by rw [hm, hcsz]; omega) h1
  simp only [Nat.add_zero, hm] at hst
  have hvs : u.cells.size = sz := by rw [← hm, ← hu]; simp
  have hrun : (execOp a.eval ⟨none, .store t x y, ty, pos, aft, g⟩).run C.P w = .ok .skip (w.setRow gb (cur.toList.take (j * sz) ++ us ++ cur.toList.drop (j * sz + sz)).toArray) := by
    simp only [execOp, opv_eval hs hx, opv_eval hs hy, Instr.storeAt, Instr.sureAddr, storeVar, Sem.run_bind, Sem.run_pure, Result.andThen_ok, run_sizeOf_of hs1, hu, hvs]
    simp only [ne_eq, not_true_eq_false, if_false, Sem.run_bind, Sem.run_pure, Result.andThen_ok, hst]
  simp only [Oper.wp, hrun, Oper.upon]
  refine hK _ _ (h _ _ ?_)
  have hlt : i < own.length := (List.getElem?_eq_some_iff.1 hi).1
  have hcurl : cur.toList.length = cap * sz := by simpa using hcsz
  have hcsl : cs.length = n * sz := hown.1
  have hnew : (cur.toList.take (j * sz) ++ us ++ cur.toList.drop (j * sz + sz)).take (n * sz) = cs' := by
    rw [← hcs, ← htake]
    exact take_spl cur.toList us (j * sz) sz (n * sz) hm hfit (by omega)
  have hrow : (w.setRow gb (cur.toList.take (j * sz) ++ us ++ cur.toList.drop (j * sz + sz)).toArray).ownsRow 0 E sz (.slice (some ⟨gb, 0, none⟩) n cap) n cs' := by
    refine ⟨by rw [← hcs]; simp; omega, .inr ⟨gb, cap, _, rfl, Nat.zero_le _, setRow_heap w gb cur _ E _ hb, hnc, hcm, ?_, ?_⟩⟩
    · simp; omega
    · simpa using hnew
  have hup := HW.update (w' := w.setRow gb (cur.toList.take (j * sz) ++ us ++ cur.toList.drop (j * sz + sz)).toArray) (own2 := []) (A' := row (.slice (some ⟨gb, 0, none⟩) n cap) E sz n cs') hf hh hal hlt ⟨rfl, rfl, rfl, by simp, fun k _ hk => setRow_other w gb k _ (fun e => hk (by rw [e]; exact (hF gb).2 rfl))⟩
    (HeapAt.one (row_of hrow)) (fun k c hc => .inl ((hF c).2 hc.2))
  rw [List.append_nil] at hup
  exact hs.put hup (d := none) (fun i hi => by cases hi) undef
end boxeff

/-! ### many at once -/
/-- all of l, apart -/
def bigA (l : List Asn) : Asn where
  holds w F := ∃ Fs, HeapAt l Fs w ∧ ∀ b, F b ↔ uni Fs b
  loc := by
    rintro w w' F ⟨Fs, hh, hF⟩ hb
    exact ⟨Fs, ⟨fun i A hi => A.loc w w' _ (hh.at_ i A hi) (fun b h => hb b ((hF b).2 ⟨i, h⟩)), hh.out, hh.apart⟩, hF⟩
  lt := by
    rintro w F ⟨Fs, hh, hF⟩ b hb
    obtain ⟨i, hi⟩ := (hF b).1 hb
    exact hh.lt hi

def empA : Asn where
  holds _ F := ∀ b, ¬ F b
  loc := fun _ _ _ h _ => h
  lt := fun _ _ h b hb => (h b hb).elim

/-- one of many, taken out -/
theorem HW.extract {C : Cx} {own l : List Asn} {w : World} {X : Asn} (j i : Nat) (hj : own[j]? = some (bigA l)) (hi : l[i]? = some X) (h : HW C own w) : HW C (own.set j (bigA (l.set i empA)) ++ [X]) w := by
  obtain ⟨hf, Fs, hh, hal⟩ := h
  obtain ⟨Gs, gh, gF⟩ := hh.at_ j _ hj
  have hjl : j < own.length := (List.getElem?_eq_some_iff.1 hj).1
  have hil : i < l.length := (List.getElem?_eq_some_iff.1 hi).1
  refine HW.update (i := j) hf hh hal hjl (FrameX.refl _ w) (Fs' := fun k b => if k = 0 then Fs j b ∧ ¬ Gs i b else if k = 1 then Gs i b else False) ⟨?_, ?_, ?_⟩ ?_
  · intro k A hk
    match k, hk with
    | 0, hk =>
      simp at hk; subst hk
      refine ⟨fun m b => m ≠ i ∧ Gs m b, ⟨?_, ?_, ?_⟩, ?_⟩
      · intro m B hm
        by_cases hmi : m = i
        · subst hmi
          simp [hil] at hm
          subst hm
          intro b hb; exact hb.1 rfl
        · rw [List.getElem?_set_ne (Ne.symm hmi)] at hm
          have := gh.at_ m B hm
          simpa [hmi] using this
      · rintro m hm b ⟨_, hb⟩; exact gh.out m (by simpa using hm) b hb
      · rintro m m' b ⟨_, h1⟩ ⟨_, h2⟩; exact gh.apart m m' b h1 h2
      · intro b
        simp only [if_true]
        constructor
        · rintro ⟨h1, h2⟩
          obtain ⟨m, hm⟩ := (gF b).1 h1
          exact ⟨m, fun e => h2 (e ▸ hm), hm⟩
        · rintro ⟨m, hne, hm⟩
          exact ⟨(gF b).2 ⟨m, hm⟩, fun h => hne (gh.apart m i b hm h)⟩
    | 1, hk =>
      simp at hk; subst hk
      simpa using gh.at_ i X hi
    | k + 2, hk => simp at hk
  · intro k hk b hb
    simp at hk
    simp [show k ≠ 0 by omega, show k ≠ 1 by omega] at hb
  · intro k m b h1 h2
    by_cases hk0 : k = 0 <;> by_cases hm0 : m = 0
    · omega
    · simp only [hk0, if_true] at h1
      simp only [hm0, if_false] at h2
      split at h2
      · exact (h1.2 h2).elim
      · exact h2.elim
    · simp only [hm0, if_true] at h2
      simp only [hk0, if_false] at h1
      split at h1
      · exact (h2.2 h1).elim
      · exact h1.elim
    · simp only [hk0, if_false] at h1
      simp only [hm0, if_false] at h2
      split at h1 <;> split at h2
      · omega
      all_goals first | exact h1.elim | exact h2.elim
  · intro k b hb
    by_cases hk0 : k = 0
    · simp only [hk0, if_true] at hb; exact .inl hb.1
    · simp only [hk0, if_false] at hb
      split at hb
      · exact .inl ((gF b).2 ⟨i, hb⟩)
      · exact hb.elim

/-- and put back, changed -/
theorem HW.putback {C : Cx} {own l : List Asn} {w : World} {X : Asn} (j i : Nat) (hj : j < own.length) (hi : i < l.length) (h : HW C (own.set j (bigA (l.set i empA)) ++ [X]) w) : HW C (own.set j (bigA (l.set i X))) w := by
  obtain ⟨hf, Fs, hh, hal⟩ := h
  have hX := hh.at_ own.length X (by rw [List.getElem?_append_right (by simp)]; simp)
  obtain ⟨Gs, gh, gF⟩ := hh.at_ j (bigA (l.set i empA)) (by rw [List.getElem?_append_left (by simpa using hj)]; simp [hj])
  have hemp : ∀ b, ¬ Gs i b := gh.at_ i empA (by simp [hi])
  refine ⟨hf, fun k b => if k = j then Fs j b ∨ Fs own.length b else k < own.length ∧ Fs k b, ⟨?_, ?_, ?_⟩, ?_⟩
  · intro k A hk
    by_cases hkj : k = j
    · subst hkj
      simp [hj] at hk
      subst hk
      refine ⟨fun m b => if m = i then Fs own.length b else Gs m b, ⟨?_, ?_, ?_⟩, ?_⟩
      · intro m B hm
        by_cases hmi : m = i
        · subst hmi
          simp [hi] at hm
          subst hm
          simpa using hX
        · rw [List.getElem?_set_ne (Ne.symm hmi)] at hm
          have := gh.at_ m B (by rw [List.getElem?_set_ne (Ne.symm hmi)]; exact hm)
          simpa [hmi] using this
      · intro m hm b hb
        have hmi : m ≠ i := by simp at hm; omega
        simp only [hmi, if_false] at hb
        exact gh.out m (by simpa using hm) b hb
      · have cross : ∀ m b, Gs m b → ¬ Fs own.length b := fun m b h1 h2 => by
          have := hh.apart k own.length b ((gF b).2 ⟨m, h1⟩) h2; omega
        intro m m' b h1 h2
        by_cases hm : m = i <;> by_cases hm' : m' = i
        · omega
        · simp only [hm, if_true] at h1; simp only [hm', if_false] at h2; exact (cross m' b h2 h1).elim
        · simp only [hm', if_true] at h2; simp only [hm, if_false] at h1; exact (cross m b h1 h2).elim
        · simp only [hm, if_false] at h1; simp only [hm', if_false] at h2; exact gh.apart m m' b h1 h2
      · intro b
        simp only [if_true]
        constructor
        · rintro (h | h)
          · obtain ⟨m, hm⟩ := (gF b).1 h
            have hmi : m ≠ i := fun e => hemp b (e ▸ hm)
            exact ⟨m, by simp [hmi, hm]⟩
          · exact ⟨i, by simp [h]⟩
        · rintro ⟨m, hm⟩
          by_cases hmi : m = i
          · simp only [hmi, if_true] at hm; exact .inr hm
          · simp only [hmi, if_false] at hm; exact .inl ((gF b).2 ⟨m, hm⟩)
    · have hkl : k < own.length := by have := (List.getElem?_eq_some_iff.1 hk).1; simpa using this
      rw [List.getElem?_set_ne (Ne.symm hkj)] at hk
      have := hh.at_ k A (by rw [List.getElem?_append_left (by simpa using hkl), List.getElem?_set_ne (Ne.symm hkj)]; exact hk)
      simpa [hkj, hkl] using this
  · intro k hk b hb
    simp at hk
    simp only [show k ≠ j by omega, if_false] at hb
    omega
  · intro k m b h1 h2
    by_cases hk : k = j <;> by_cases hm : m = j
    · omega
    · simp only [hk, if_true] at h1; simp only [hm, if_false] at h2
      rcases h1 with h1 | h1
      · exact absurd (hh.apart j m b h1 h2.2) (Ne.symm hm)
      · have := hh.apart _ _ b h1 h2.2; omega
    · simp only [hm, if_true] at h2; simp only [hk, if_false] at h1
      rcases h2 with h2 | h2
      · exact absurd (hh.apart j k b h2 h1.2) (Ne.symm hk)
      · have := hh.apart _ _ b h2 h1.2; omega
    · simp only [hk, if_false] at h1; simp only [hm, if_false] at h2; exact hh.apart k m b h1.2 h2.2
  · intro k b hb
    by_cases hk : k = j
    · simp only [hk, if_true] at hb
      rcases hb with hb | hb <;> exact hal _ b hb
    · simp only [hk, if_false] at hb; exact hal _ b hb.2

theorem RdS.big {C : Cx} {own l : List Asn} {v : Value} {E : TypeId} {sz n : Nat} {cs : List Value} (j i : Nat) (hj : own[j]? = some (bigA l)) (hi : l[i]? = some (row v E sz n cs)) : RdS C own v sz n cs := fun w hw => by
  obtain ⟨_, Fs, hh, _⟩ := hw
  obtain ⟨Gs, gh, _⟩ := hh.at_ j _ hj
  exact (row_rd (gh.at_ i _ hi)).mono fun b _ _ => ⟨trivial, rfl⟩

/-- a new list of nil rows -/
theorem HW.ghostBig {C : Cx} {own : List Asn} {w : World} (h : HW C own w) (l : List Asn) (hl : ∀ (i : Nat) (A : Asn), l[i]? = some A → A.holds w (fun _ => False)) : HW C (own ++ [bigA l]) w :=
  h.push (FrameX.refl _ w) (HeapAt.one (F := fun _ => False) ⟨fun _ _ => False, ⟨hl, fun _ _ _ => id, fun _ _ _ h => h.elim⟩, fun b => ⟨fun h => h.elim, fun ⟨_, h⟩ => h⟩⟩) (fun j b hb => hb.2.elim)


end Go.Sx
