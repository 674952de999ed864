import Derived.Test.YtaeojcaidcjnaaaSc
import Derived.Laws.RangeString
import Derived.Laws.Strings2
set_option linter.unusedVariables false
set_option linter.unusedSimpArgs false
namespace Go.Sx
open Go.RowKit
/-! ### ranging over a string; cuts of strings -/
def iterA (b : Nat) (l : List UInt8) (k : Nat) : Asn where
  holds w F := w.heap[b]? = some (.stringIter ⟨l.toArray⟩ k) ∧ ∀ c, F c ↔ c = b
  loc := by
    rintro w w' F ⟨h1, hF⟩ hb
    exact ⟨by rw [hb b ((hF b).2 rfl)]; exact h1, hF⟩
  lt := by
    rintro w F ⟨h1, hF⟩ c hc
    rw [(hF c).1 hc]
    exact (Array.getElem?_eq_some_iff.1 h1).1
section iters
variable {C : Cx} {sl : List (Nat × Value)} {own : List Asn} {ops : Array Oper} {Q : Exit → Act → World → Prop} {ty : TypeId} {pos : String} {aft : Array Edge} {g : Option (Nat × Bool)} {rest : List Oper}
theorem AK.rangeS {d : Nat} {t : TypeId} {x : Operand} {l : List UInt8} (ht : C.P.underlying t = some .string) (hx : opv ⟨sl, own⟩ x = some (sv l)) (hg : Grd ops sl g) (hd : Nat.blt d C.N = true)
    (h : ∀ b, AK C ⟨(d, .pointer (some ⟨b, 0, none⟩)) :: sl, own ++ [iterA b l 0]⟩ (wpList C.P ops Q rest)) :
    AK C ⟨sl, own⟩ (wpList C.P ops Q (⟨some d, .range t x, ty, pos, aft, g⟩ :: rest)) := by
  intro a w hs
  refine wpList_step fun K hK => ?_
  rw [if_pos (wanted_of_Grd hs hg)]
  have hrun : (execOp a.eval ⟨some d, .range t x, ty, pos, aft, g⟩).run C.P w = .ok (.value (.pointer (some ⟨w.heap.size, 0, none⟩))) (w.iter ⟨l.toArray⟩ 0) := by
    simp only [execOp, opv_eval hs hx, sv, Sem.run_bind, run_range_string w t _ ht, Result.andThen_ok, Sem.run_pure]
  simp only [Oper.wp, hrun, Oper.upon]
  refine hK _ _ (h w.heap.size _ _ ?_)
  have hZ : (iterA w.heap.size l 0).holds (w.iter ⟨l.toArray⟩ 0) (fun c => c = w.heap.size) := ⟨World.iter_heap w _ 0, fun _ => Iff.rfl⟩
  have hfr : FrameX (fun _ => False) w (w.iter ⟨l.toArray⟩ 0) :=
    ⟨rfl, rfl, rfl, by show w.heap.size ≤ (w.heap.push _).size; simp, fun k hk _ => by show (w.heap.push _)[k]? = _; simp [Array.getElem?_push, Nat.ne_of_lt hk]⟩
  refine hs.put (hs.world.push hfr (HeapAt.one hZ) (fun j b hb => ?_)) (d := some d) (fun i hi => by cases hi; simpa [Nat.blt_eq] using hd) _
  have := hb.2; omega
theorem run_next_in {P : Program} (w : World) (b : Nat) (l : List UInt8) (k : Nat) (ty : TypeId) (hh : w.heap[b]? = some (.stringIter ⟨l.toArray⟩ k)) (h : k < l.length) (ha : (l.getD k 0).toNat < 128) :
    (Instr.next (.pointer (some ⟨b, 0, none⟩)) true ty).run P w = .ok (.tuple #[.bool true, .int .i64 (k : Int), .int .i32 ((l.getD k 0).toNat : Int)]) { w with heap := w.heap.setIfInBounds b (.stringIter ⟨l.toArray⟩ (k + 1)) } := by
  have hsz : k < (⟨l.toArray⟩ : ByteArray).size := by simpa [ByteArray.size] using h
  have hb : (⟨l.toArray⟩ : ByteArray)[k]'hsz = l.getD k 0 := by
    rw [List.getD_eq_getElem?_getD, List.getElem?_eq_getElem h]; rfl
  have hd := decode_ascii ⟨l.toArray⟩ k hsz (by rw [hb]; exact ha)
  rw [hb] at hd
  have hlt : b < w.heap.size := (Array.getElem?_eq_some_iff.1 hh).1
  simp only [Instr.next, getObj, setObj, Sem.run_bind, Sem.run, hh, Result.andThen, hsz, if_true, hd]
  simp [goInt, Sem.run, hh]
theorem run_next_out {P : Program} (w : World) (b : Nat) (l : List UInt8) (k : Nat) (ty : TypeId) (hh : w.heap[b]? = some (.stringIter ⟨l.toArray⟩ k)) (h : ¬ k < l.length) :
    (Instr.next (.pointer (some ⟨b, 0, none⟩)) true ty).run P w = .ok (.tuple #[.bool false]) w := by
  have hsz : ¬ k < (⟨l.toArray⟩ : ByteArray).size := by simpa [ByteArray.size] using h
  simp [Instr.next, getObj, Sem.run, hh, hsz]
theorem AK.nextC (i : Nat) {d b k : Nat} {x : Operand} {l : List UInt8} (hi : own[i]? = some (iterA b l k)) (hx : opv ⟨sl, own⟩ x = some (.pointer (some ⟨b, 0, none⟩))) (ha : k < l.length → (l.getD k 0).toNat < 128) (hg : Grd ops sl g) (hd : Nat.blt d C.N = true)
    (h1 : k < l.length → AK C ⟨(d, .tuple #[.bool true, .int .i64 (k : Int), .int .i32 ((l.getD k 0).toNat : Int)]) :: sl, own.set i (iterA b l (k + 1))⟩ (wpList C.P ops Q rest))
    (h2 : ¬ k < l.length → AK C ⟨(d, .tuple #[.bool false]) :: sl, own⟩ (wpList C.P ops Q rest)) :
    AK C ⟨sl, own⟩ (wpList C.P ops Q (⟨some d, .next x true, ty, pos, aft, g⟩ :: rest)) := by
  intro a w hs
  refine wpList_step fun K hK => ?_
  rw [if_pos (wanted_of_Grd hs hg)]
  obtain ⟨hf, Fs, hh, hal⟩ := hs.world
  obtain ⟨hb, hF⟩ := hh.at_ i _ hi
  by_cases hk : k < l.length
  · have hrun : (execOp a.eval ⟨some d, .next x true, ty, pos, aft, g⟩).run C.P w = .ok (.value (.tuple #[.bool true, .int .i64 (k : Int), .int .i32 ((l.getD k 0).toNat : Int)])) { w with heap := w.heap.setIfInBounds b (.stringIter ⟨l.toArray⟩ (k + 1)) } := by
      simp only [execOp, opv_eval hs hx, Sem.run_bind, run_next_in w b l k _ hb hk (ha hk), Result.andThen_ok, Sem.run_pure]
    simp only [Oper.wp, hrun, Oper.upon]
    refine hK _ _ (h1 hk _ _ ?_)
    have hbl : b < w.heap.size := (Array.getElem?_eq_some_iff.1 hb).1
    have hlt : i < own.length := (List.getElem?_eq_some_iff.1 hi).1
    have hZ : (iterA b l (k + 1)).holds { w with heap := w.heap.setIfInBounds b (.stringIter ⟨l.toArray⟩ (k + 1)) } (Fs i) := ⟨by simp [hbl], hF⟩
    have hfr : FrameX (Fs i) w { w with heap := w.heap.setIfInBounds b (.stringIter ⟨l.toArray⟩ (k + 1)) } :=
      ⟨rfl, rfl, rfl, by simp, fun j _ hj => by
        have : b ≠ j := fun e => hj ((hF j).2 e.symm)
        simp [Array.getElem?_setIfInBounds, this]⟩
    have hup := HW.update (own2 := []) (A' := iterA b l (k + 1)) hf hh hal hlt hfr (HeapAt.one hZ) (fun j b hb => .inl hb.2)
    rw [List.append_nil] at hup
    exact hs.put hup (d := some d) (fun i hi => by cases hi; simpa [Nat.blt_eq] using hd) _
  · have hrun : (execOp a.eval ⟨some d, .next x true, ty, pos, aft, g⟩).run C.P w = .ok (.value (.tuple #[.bool false])) w := by
      simp only [execOp, opv_eval hs hx, Sem.run_bind, run_next_out w b l k _ hb hk, Result.andThen_ok, Sem.run_pure]
    simp only [Oper.wp, hrun, Oper.upon]
    refine hK _ _ (h2 hk _ _ ?_)
    exact hs.put ⟨hf, Fs, hh, hal⟩ (d := some d) (fun i hi => by cases hi; simpa [Nat.blt_eq] using hd) _
end iters
section cutstr
variable {C : Cx} {sl : List (Nat × Value)} {own : List Asn} {dst : Option Nat} {ty : TypeId} {pos : String} {aft : Array Edge} {g : Option (Nat × Bool)}
theorem sv_extract (l : List UInt8) (a b : Nat) : (.string ((⟨l.toArray⟩ : ByteArray).extract a b) : Value) = sv ((l.drop a).take (b - a)) := by
  rw [ByteArray.extract_mk]; rfl
theorem Yl.subS {x lo hi : Operand} {t : TypeId} {l : List UInt8} {a b : Int} (ht : C.P.underlying t = some .string) (hx : opv ⟨sl, own⟩ x = some (sv l)) (h1 : opv ⟨sl, own⟩ lo = some (.int .i64 a)) (h2 : opv ⟨sl, own⟩ hi = some (.int .i64 b)) (ha : 0 ≤ a ∧ a ≤ b) (hb : b ≤ l.length) :
    Yl C ⟨sl, own⟩ ⟨dst, .slice t x (some lo) (some hi) none, ty, pos, aft, g⟩ (sv ((l.drop a.toNat).take (b.toNat - a.toNat))) :=
  fun A w hs => by
    have hsz : (⟨l.toArray⟩ : ByteArray).size = l.length := by simp [ByteArray.size]
    have k1 : (0 : Int) ≤ b ∧ b ≤ (l.length : Int) := by omega
    have k2 : (0 : Int) ≤ a ∧ a ≤ ((b.toNat : Nat) : Int) := by omega
    rw [← sv_extract]
    simp only [execOp, opv_eval hs hx, Option.map_none, Option.map_some, opv_eval hs h1, opv_eval hs h2, sv]
    simp only [Instr.sliceAt, Instr.slice, Instr.sliceBounds, Instr.sliceBound, asIntOf, Sem.run_bind, Sem.run_pure, Result.andThen_ok, run_underlying ht, hsz, k1, k2, and_self, if_true, Option.isSome_none, Bool.false_eq_true, if_false]
theorem Yl.subTo {x hi : Operand} {t : TypeId} {l : List UInt8} {b : Int} (ht : C.P.underlying t = some .string) (hx : opv ⟨sl, own⟩ x = some (sv l)) (h2 : opv ⟨sl, own⟩ hi = some (.int .i64 b)) (hb : 0 ≤ b ∧ b ≤ l.length) :
    Yl C ⟨sl, own⟩ ⟨dst, .slice t x none (some hi) none, ty, pos, aft, g⟩ (sv (l.take b.toNat)) :=
  fun A w hs => by
    have hsz : (⟨l.toArray⟩ : ByteArray).size = l.length := by simp [ByteArray.size]
    have k1 : (0 : Int) ≤ b ∧ b ≤ (l.length : Int) := by omega
    have e := sv_extract l 0 b.toNat
    rw [List.drop_zero, Nat.sub_zero] at e
    rw [← e]
    simp only [execOp, opv_eval hs hx, Option.map_none, Option.map_some, opv_eval hs h2, sv]
    simp only [Instr.sliceAt, Instr.slice, Instr.sliceBounds, Instr.sliceBound, asIntOf, Sem.run_bind, Sem.run_pure, Result.andThen_ok, run_underlying ht, hsz, k1, and_self, if_true, Option.isSome_none, Bool.false_eq_true, if_false]
theorem Yl.subFr {x lo : Operand} {t : TypeId} {l : List UInt8} {a : Int} (ht : C.P.underlying t = some .string) (hx : opv ⟨sl, own⟩ x = some (sv l)) (h1 : opv ⟨sl, own⟩ lo = some (.int .i64 a)) (ha : 0 ≤ a ∧ a ≤ l.length) :
    Yl C ⟨sl, own⟩ ⟨dst, .slice t x (some lo) none none, ty, pos, aft, g⟩ (sv (l.drop a.toNat)) :=
  fun A w hs => by
    have hsz : (⟨l.toArray⟩ : ByteArray).size = l.length := by simp [ByteArray.size]
    have k1 : (0 : Int) ≤ a ∧ a ≤ (l.length : Int) := by omega
    have e := sv_extract l a.toNat l.length
    rw [List.take_of_length_le (by simp)] at e
    rw [← e]
    simp only [execOp, opv_eval hs hx, Option.map_none, Option.map_some, opv_eval hs h1, sv]
    simp only [Instr.sliceAt, Instr.slice, Instr.sliceBounds, Instr.sliceBound, asIntOf, Sem.run_bind, Sem.run_pure, Result.andThen_ok, run_underlying ht, hsz, k1, and_self, if_true, Option.isSome_none, Bool.false_eq_true, if_false]
end cutstr
end Go.Sx
