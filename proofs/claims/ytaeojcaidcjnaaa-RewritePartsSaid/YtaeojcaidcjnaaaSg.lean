import Derived.Test.YtaeojcaidcjnaaaS2
import Derived.ChangeKeysEq
set_option linter.unusedVariables false
set_option linter.unusedSimpArgs false
namespace Go.Sx
open Go.RowKit
/-! ### rows of arrays: one cell of an element -/
section rowarr
variable {C : Cx} {sl : List (Nat × Value)} {own : List Asn} {dst : Option Nat} {ty : TypeId} {pos : String} {aft : Array Edge} {g : Option (Nat × Bool)}
theorem slA_add2 (v : Value) (m k : Nat) : ((slA v).add m).add k = (slA v).add (m + k) := by
  unfold Addr.add; repeat' split
  all_goals first | rfl | omega | (simp; omega) | (simp_all; done) | (congr 1; omega)
theorem Yl.idxArrR {x i : Operand} {t e n sz m : Nat} {q : IntKind} {k : Int} {v : Value} (ht : ArrT C.P t e n sz) (hx : opv ⟨sl, own⟩ x = some (.pointer (some ((slA v).add m)))) (hi : opv ⟨sl, own⟩ i = some (.int q k)) (hk : 0 ≤ k ∧ k < n) :
    Yl C ⟨sl, own⟩ ⟨dst, .indexAddr t x i, ty, pos, aft, g⟩ (.pointer (some ((slA v).add (m + k.toNat * sz)))) :=
  fun a w hs => by
    have hs1 := run_sizeOf_of ht.2 w
    rw [← slA_add2]
    simp only [execOp, opv_eval hs hx, opv_eval hs hi, Instr.indexAt, asIntOf, Sem.run_bind, Sem.run_pure, Result.andThen_ok, run_underlying ht.1, Instr.sureAddr]
    simp [hk.1, hk.2, hs1, run_underlying ht.1]
theorem Yl.loadAt {x : Operand} {t : TypeId} {v u : Value} {n sz p : Nat} {cs : List Value} (ht : OneT C.P t) (hx : opv ⟨sl, own⟩ x = some (.pointer (some ((slA v).add p)))) (hr : RdS C own v sz n cs) (hu : cs[p]? = some u) :
    Yl C ⟨sl, own⟩ ⟨dst, .load t x, ty, pos, aft, g⟩ u :=
  fun a w hs => by
    have h1 := (rd_cell (hr w hs.world) hu).1
    simp [execOp, opv_eval hs hx, Instr.loadAt, Instr.sureAddr, run_loadVar_one ht h1]
theorem Yl.idxAgg {x i : Operand} {t e n : Nat} {q : IntKind} {k : Int} {arr : Array Value} {u : Value} (ht : ArrT C.P t e n 1) (he : C.P.plainKey e = true) (hx : opv ⟨sl, own⟩ x = some (.agg arr)) (hi : opv ⟨sl, own⟩ i = some (.int q k)) (hk : 0 ≤ k ∧ k < n) (hu : arr[k.toNat]? = some u) :
    Yl C ⟨sl, own⟩ ⟨dst, .index t x i, ty, pos, aft, g⟩ u :=
  fun a w hs => by
    have hs1 := run_sizeOf_of ht.2 w
    have hp := run_part_plain (w := w) he hu
    simp only [execOp, opv_eval hs hx, opv_eval hs hi, Instr.index, asIntOf, Sem.run_bind, Sem.run_pure, Result.andThen_ok, run_underlying ht.1]
    simp [hk.1, hk.2, hs1, hp]
end rowarr
section rowarr2
variable {C : Cx} {sl : List (Nat × Value)} {own : List Asn} {ops : Array Oper} {Q : Exit → Act → World → Prop} {ty : TypeId} {pos : String} {aft : Array Edge} {g : Option (Nat × Bool)} {rest : List Oper}
/-- one cell of an owned row -/
theorem AK.storeAt (i : Nat) {t E : TypeId} {x y : Operand} {v u : Value} {n sz p : Nat} {cs cs' : List Value} (hi : own[i]? = some (row v E sz n cs)) (hs1 : (C.P.info? t).map (·.size) = some 1) (hx : opv ⟨sl, own⟩ x = some (.pointer (some ((slA v).add p)))) (hy : opv ⟨sl, own⟩ y = some u)
    (hu : u.cells = #[u]) (h1 : u.oneCell' = true) (hj : p < n * sz) (hcs : cs.set p u = cs') (hg : Grd ops sl g) (h : AK C ⟨sl, own.set i (row v E sz n cs')⟩ (wpList C.P ops Q rest)) :
    AK C ⟨sl, own⟩ (wpList C.P ops Q (⟨none, .store t x y, ty, pos, aft, g⟩ :: rest)) := by
  subst hcs
  intro a w hs
  refine wpList_step fun K hK => ?_
  rw [if_pos (wanted_of_Grd hs hg)]
  obtain ⟨hf, Fs, hh, hal⟩ := hs.world
  have hA := hh.at_ i _ hi
  obtain ⟨e1, e2, e3, e4⟩ := row_grown hA (j := p) hj u
  have hst : (store ((slA v).add p) u).run C.P w = .ok () (w.setCell ((slA v).add p) u) := by
    obtain ⟨u0, hu0⟩ := Option.isSome_iff_exists.1 e3
    rw [run_store _ _ _ _ _ h1, hu0, e4]; rfl
  have hadd : ∀ a : Addr, a.add 0 = a := fun a => by simp [Addr.add]
  have hrun : (execOp a.eval ⟨none, .store t x y, ty, pos, aft, g⟩).run C.P w = .ok .skip (w.setCell ((slA v).add p) u) := by
    simp only [execOp, opv_eval hs hx, opv_eval hs hy, Instr.storeAt, Instr.sureAddr, storeVar, Sem.run_bind, Sem.run_pure, Result.andThen_ok, run_sizeOf_of hs1, hu]
    simp [storeCells, hst, hadd]
  simp only [Oper.wp, hrun, Oper.upon]
  refine hK _ _ (h _ _ ?_)
  have hlt : i < own.length := (List.getElem?_eq_some_iff.1 hi).1
  have hup := HW.update (own2 := []) (A' := row v E sz n (cs.set p u)) hf hh hal hlt e2 (HeapAt.one (row_of e1)) (fun k b hb => .inl ((hA.2 b).2 hb.2))
  rw [List.append_nil] at hup
  exact hs.put hup (d := none) (fun i hi => by cases hi) undef
end rowarr2
end Go.Sx
namespace Go.Sx
theorem wrap_i32w {n : Int} (h : -2147483648 ≤ n ∧ n ≤ 2147483647) : IntKind.i32.wrap n = n := by simp [IntKind.wrap, IntKind.bits, IntKind.signed]; omega
end Go.Sx
