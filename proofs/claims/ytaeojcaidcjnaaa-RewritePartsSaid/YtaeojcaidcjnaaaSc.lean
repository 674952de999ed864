import Derived.Test.YtaeojcaidcjnaaaSg
import Derived.Laws.IdiomCopy
set_option linter.unusedVariables false
set_option linter.unusedSimpArgs false
namespace Go.Sx
open Go.RowKit
/-! ### cuts of an owned row, and copies within it -/
section cuts
variable {C : Cx} {sl : List (Nat × Value)} {own : List Asn} {dst : Option Nat} {ty : TypeId} {pos : String} {aft : Array Edge} {g : Option (Nat × Bool)}
/-- a slice of n elements -/
def CutS (C : Cx) (own : List Asn) (v : Value) (n : Nat) : Prop := ∀ w, HW C own w → ∃ ao c, v = .slice ao n c ∧ n ≤ c
theorem CutS.row (i : Nat) {v : Value} {E : TypeId} {sz n : Nat} {cs : List Value} (hi : own[i]? = some (row v E sz n cs)) : CutS C own v n := fun w hw => by
  obtain ⟨_, Fs, hhp, _⟩ := hw
  obtain ⟨hown, _⟩ := hhp.at_ i _ hi
  rcases hown.2 with ⟨rfl, rfl⟩ | ⟨gb, cp, cur, rfl, _, _, hnc, _⟩
  · exact ⟨none, 0, rfl, Nat.le_refl _⟩
  · exact ⟨_, cp, rfl, hnc⟩
theorem CutS.rowZ (i : Nat) {v : Value} {E : TypeId} {n : Nat} {cs : List Value} (hi : own[i]? = some (rowZ v E n cs)) : CutS C own v n := fun w hw => by
  obtain ⟨_, Fs, hhp, _⟩ := hw
  obtain ⟨⟨gb, cap, cur, fz, rfl, hcp, _⟩, _⟩ := hhp.at_ i _ hi
  exact ⟨_, cap, rfl, hcp⟩
/-- s[m:] -/
def slFr (v : Value) (sz m : Nat) : Value := match v with
  | .slice a n c => .slice (if c = m then a else a.map (·.add (m * sz))) (n - m) (c - m)
  | v => v
theorem Yl.sliceFr {x l : Operand} {t E : TypeId} {sz n : Nat} {v : Value} {m : Int} (hc : CutS C own v n) (ht : SlT C.P t E sz) (hx : opv ⟨sl, own⟩ x = some v) (hh : opv ⟨sl, own⟩ l = some (.int .i64 m)) (hm : 0 ≤ m ∧ m ≤ n) :
    Yl C ⟨sl, own⟩ ⟨dst, .slice t x (some l) none none, ty, pos, aft, g⟩ (slFr v sz m.toNat) :=
  fun a w hs => by
    obtain ⟨ao, c, rfl, hnc⟩ := hc w hs.world
    obtain ⟨inf, hi1, hi2⟩ := ht.inf
    simp only [execOp, opv_eval hs hx, Option.map_none, Option.map_some, opv_eval hs hh]
    simp [Instr.sliceAt, Instr.slice, Instr.sliceBounds, Instr.sliceBound, asIntOf, run_underlying ht.1, hm.1, hm.2, sizeOf, typeInfo, hi1, slFr, hi2]
theorem Yl.sliceToC {x h : Operand} {t E : TypeId} {sz n : Nat} {v : Value} {m : Int} (hc : CutS C own v n) (ht : SlT C.P t E sz) (hx : opv ⟨sl, own⟩ x = some v) (hh : opv ⟨sl, own⟩ h = some (.int .i64 m)) (hm : 0 ≤ m ∧ m ≤ n) :
    Yl C ⟨sl, own⟩ ⟨dst, .slice t x none (some h) none, ty, pos, aft, g⟩ (slTo v m.toNat) :=
  fun a w hs => by
    obtain ⟨ao, c, rfl, hnc⟩ := hc w hs.world
    obtain ⟨inf, hi1, hi2⟩ := ht.inf
    have h1 : (0 : Int) ≤ m ∧ m ≤ (c : Int) := by omega
    simp only [execOp, opv_eval hs hx, Option.map_none, Option.map_some, opv_eval hs hh]
    simp [Instr.sliceAt, Instr.slice, Instr.sliceBounds, Instr.sliceBound, asIntOf, run_underlying ht.1, h1.1, h1.2, sizeOf, typeInfo, hi1, slTo]
    intro _
    cases ao <;> simp [Addr.add]
theorem rowZ_to {w : World} {F : Nat → Prop} {v : Value} {E : TypeId} {n m : Nat} {cs : List Value} (h : (rowZ v E n cs).holds w F) (hm : m ≤ n) : (rowZ (slTo v m) E m (cs.take m)).holds w F := by
  obtain ⟨⟨gb, cap, cur, fz, rfl, hcp, hh, h1, h2, h3, h4, h5⟩, hF⟩ := h
  refine ⟨⟨gb, cap, cur, fz, rfl, by omega, hh, by omega, by omega, Nat.le_trans hm h3, by rw [List.length_take]; omega, ?_⟩, hF⟩
  rw [← h5, List.take_take, Nat.min_eq_left hm]
theorem AK.resliceZ {K : Act → World → Prop} (i : Nat) {v : Value} {E : TypeId} {n : Nat} {cs : List Value} (m : Nat) (hi : own[i]? = some (rowZ v E n cs)) (hm : m ≤ n) (h : AK C ⟨sl, own.set i (rowZ (slTo v m) E m (cs.take m))⟩ K) : AK C ⟨sl, own⟩ K :=
  fun a w hs => h a w ⟨hs.size, hs.defers, hs.slot, hs.world.elem i hi (fun F hA => rowZ_to hA hm)⟩
theorem AK.resliceZE {K : Act → World → Prop} (i : Nat) {v : Value} {E : TypeId} {n : Nat} {cs : List Value} (m : Nat) (cs' : List Value) (hi : own[i]? = some (rowZ v E n cs)) (hm : m ≤ n) (e : cs.take m = cs') (h : AK C ⟨sl, own.set i (rowZ (slTo v m) E m cs')⟩ K) : AK C ⟨sl, own⟩ K := by
  subst e; exact AK.resliceZ i m hi hm h
theorem AK.resliceE {K : Act → World → Prop} (i : Nat) {v : Value} {E : TypeId} {n : Nat} {cs : List Value} (m : Nat) (cs' : List Value) (hi : own[i]? = some (row v E 1 n cs)) (hm : m ≤ n) (e : cs.take m = cs') (h : AK C ⟨sl, own.set i (row (slTo v m) E 1 m cs')⟩ K) : AK C ⟨sl, own⟩ K := by
  subst e; exact AK.reslice i m hi hm (by rw [Nat.mul_one]; exact h)
theorem AK.shapeZ {K : Act → World → Prop} (i : Nat) {v : Value} {E : TypeId} {n : Nat} {cs : List Value} (hi : own[i]? = some (rowZ v E n cs)) (h : IsSl v → AK C ⟨sl, own⟩ K) : AK C ⟨sl, own⟩ K :=
  AK.fact (p := IsSl v) (fun w hw => by obtain ⟨a, c, e, _⟩ := CutS.rowZ i hi w hw; exact ⟨_, _, _, e⟩) h
/-- cells b on over cells a on -/
def cpy (cs : List Value) (a b : Nat) : List Value := cs.take a ++ cs.drop b ++ cs.drop (a + (cs.length - b))
theorem setCells_heap (b : Nat) (E : TypeId) (fz : Nat × Nat) : ∀ (vs : List Value) (o : Nat) (w : World) (cur : Array Value), w.heap[b]? = some (.cells cur E fz) → o + vs.length ≤ cur.size →
    ∃ cur' : Array Value, (w.setCells b o vs).heap[b]? = some (.cells cur' E fz) ∧ cur'.toList = cur.toList.take o ++ vs ++ cur.toList.drop (o + vs.length) := by
  intro vs
  induction vs with
  | nil => intro o w cur hh hl; exact ⟨cur, hh, by simp⟩
  | cons u vs ih =>
    intro o w cur hh hl
    simp only [List.length_cons] at hl
    obtain ⟨cur', h1, h2⟩ := ih (o + 1) (w.setCell ⟨b, o, none⟩ u) (cur.setIfInBounds o u) (by simp [World.setCell, Array.getElem?_modify, hh]) (by simp; omega)
    refine ⟨cur', h1, ?_⟩
    rw [h2, Array.toList_setIfInBounds]
    have := list_seg_step cur.toList o u vs (by simpa using (by omega : o + (vs.length + 1) ≤ cur.size))
    simpa [Nat.add_assoc, Nat.add_comm, Nat.add_left_comm] using this
theorem setCells_frame (b : Nat) {F : Nat → Prop} (hF : F b) : ∀ (vs : List Value) (o : Nat) (w : World), FrameX F w (w.setCells b o vs)
  | [], _, w => FrameX.refl _ w
  | u :: vs, o, w => by
    have h := setCells_frame b hF vs (o + 1) (w.setCell ⟨b, o, none⟩ u)
    have h1 : FrameX F w (w.setCell ⟨b, o, none⟩ u) := ⟨rfl, rfl, rfl, by simp, fun k _ hk => heap_setCell_other w ⟨b, o, none⟩ k u (fun e => hk (by rw [show k = b from e]; exact hF))⟩
    exact h1.step h (fun b hb _ => hb)
theorem copy_core {P : Program} {w : World} {t t' ty E : TypeId} {gb n cap a b : Nat} {cur : Array Value} {E0 : TypeId} {fz : Nat × Nat} {cs : List Value} {F : Nat → Prop} (ht : SlT P t E 1) (hh : w.heap[gb]? = some (.cells cur E0 fz)) (hn : n ≤ cur.size) (hfz : ∀ j, j < n → w.frozen? ⟨gb, j, none⟩ = false)
    (hnc : n ≤ cap) (hcl : cs.length = n) (hcs : cur.toList.take n = cs) (h1 : one' cs) (hab : a ≤ b) (hb : b ≤ n) (hF : F gb) :
    ∃ w' cur', (Builtin.copy_ #[t, t'] ty #[slFr (.slice (some ⟨gb, 0, none⟩) n cap) 1 a, slFr (.slice (some ⟨gb, 0, none⟩) n cap) 1 b]).run P w = .ok (goInt ((n - b : Nat) : Int)) w' ∧ w'.heap[gb]? = some (.cells cur' E0 fz) ∧ cur'.size = cur.size ∧ cur'.toList.take n = cpy cs a b ∧ FrameX F w w' := by
  have hcell : ∀ j, w.cell? ⟨gb, j, none⟩ = cur[j]? := fun j => rowZ_cell hh j
  by_cases h0 : n - b = 0
  · refine ⟨w, cur, ?_, hh, rfl, ?_, FrameX.refl _ w⟩
    · have := run_copy_none (P := P) w t t' ty E (if cap = a then some ⟨gb, 0, none⟩ else (some ⟨gb, 0, none⟩ : Option Addr).map (·.add (a * 1))) (if cap = b then some ⟨gb, 0, none⟩ else (some ⟨gb, 0, none⟩ : Option Addr).map (·.add (b * 1))) (n - a) (cap - a) (n - b) (cap - b) ht.1 ht.2 (by simp [h0])
      rw [h0]
      rw [h0] at this
      simpa [slFr, h0] using this
    · have : b = n := by omega
      subst this
      rw [hcs, cpy, ← hcl, List.drop_length, Nat.sub_self, Nat.add_zero, List.append_nil, List.take_append_drop]
  · have ha : cap ≠ a := by omega
    have hb' : cap ≠ b := by omega
    have e1 : slFr (.slice (some ⟨gb, 0, none⟩) n cap) 1 a = .slice (some ⟨gb, a, none⟩) (n - a) (cap - a) := by
      simp [slFr, ha, Addr.add_lit]
    have e2 : slFr (.slice (some ⟨gb, 0, none⟩) n cap) 1 b = .slice (some ⟨gb, b, none⟩) (n - b) (cap - b) := by
      simp [slFr, hb', Addr.add_lit]
    rw [e1, e2]
    have hlen : (cs.drop b).length = n - b := by rw [List.length_drop, hcl]
    have hrun := run_copy_cells (P := P) w t t' ty E gb a (n - a) (cap - a) ⟨gb, b, none⟩ (n - b) (cap - b) (cs.drop b) ht.1 ht.2 (by rw [hlen]; exact (Nat.min_eq_left (by omega)).symm)
      (fun j v hj => by
        have hj' : j < n - b := by rw [← hlen]; exact (List.getElem?_eq_some_iff.1 hj).1
        rw [Addr.add_lit, hcell]
        rw [List.getElem?_drop, ← hcs, List.getElem?_take, if_pos (by omega)] at hj
        simpa using hj)
      (fun j hj => by rw [hcell, Array.getElem?_eq_getElem (by omega)]; rfl) (fun j hj => hfz _ (by omega)) (fun v hv => h1 v (List.mem_of_mem_drop hv))
    rw [hlen] at hrun
    obtain ⟨cur', k1, k2⟩ := setCells_heap gb E0 fz (cs.drop b) a w cur hh (by omega)
    refine ⟨_, cur', hrun, k1, ?_, ?_, setCells_frame gb hF _ _ _⟩
    · have := congrArg List.length k2
      simp at this
      omega
    · rw [k2, cpy, hlen, hcl, ← hcs]
      have hl : cur.toList.length = cur.size := by simp
      rw [List.take_append, List.take_of_length_le (by simp; omega)]
      rw [List.take_take, Nat.min_eq_left (by omega), List.drop_take (i := a + (n - b))]
      congr 2
      simp
      omega
end cuts
section cuts2
variable {C : Cx} {sl : List (Nat × Value)} {own : List Asn} {ops : Array Oper} {Q : Exit → Act → World → Prop} {ty : TypeId} {pos : String} {aft : Array Edge} {g : Option (Nat × Bool)} {rest : List Oper}
theorem AK.copyIn (i : Nat) {d : Nat} {x y : Operand} {t t' E E0 : TypeId} {v : Value} {n a b : Nat} {cs : List Value} (hi : own[i]? = some (row v E0 1 n cs)) (ht : SlT C.P t E 1) (hx : opv ⟨sl, own⟩ x = some (slFr v 1 a)) (hy : opv ⟨sl, own⟩ y = some (slFr v 1 b)) (hab : a ≤ b ∧ b ≤ n) (h1 : one' cs) (hg : Grd ops sl g) (hd : Nat.blt d C.N = true)
    (h : AK C ⟨(d, .int .i64 ((n - b : Nat) : Int)) :: sl, own.set i (row v E0 1 n (cpy cs a b))⟩ (wpList C.P ops Q rest)) :
    AK C ⟨sl, own⟩ (wpList C.P ops Q (⟨some d, .call ⟨.builtin .copy, #[x, y], #[t, t']⟩, ty, pos, aft, g⟩ :: rest)) := by
  intro A w hs
  refine wpList_step fun K hK => ?_
  rw [if_pos (wanted_of_Grd hs hg)]
  obtain ⟨hf, Fs, hh, hal⟩ := hs.world
  obtain ⟨hown, hF⟩ := hh.at_ i _ hi
  have hcl : cs.length = n := by have := hown.1; omega
  have key : ∃ w', (Builtin.copy_ #[t, t'] ty #[slFr v 1 a, slFr v 1 b]).run C.P w = .ok (goInt ((n - b : Nat) : Int)) w' ∧ w'.ownsRow 0 E0 1 v n (cpy cs a b) ∧ FrameX (Fs i) w w' := by
    rcases hown.2 with ⟨rfl, hn0⟩ | ⟨gb, cap, cur, rfl, hb0, hb, hnc, hcm, hcsz, htake⟩
    · subst hn0
      have : cs = [] := List.eq_nil_of_length_eq_zero (by omega)
      subst this
      have := run_copy_none (P := C.P) w t t' ty E none none (0 - a) (0 - a) (0 - b) (0 - b) ht.1 ht.2 (by simp)
      refine ⟨w, ?_, by simpa [cpy] using hown, FrameX.refl _ w⟩
      have e : ∀ k, slFr (.slice none 0 0) 1 k = .slice none (0 - k) (0 - k) := fun k => by simp [slFr]
      rw [e, e]; simpa using this
    · obtain ⟨w', cur', k1, k2, k3, k4, k5⟩ := copy_core (P := C.P) (ty := ty) (t' := t') (F := Fs i) ht hb (by omega) (fun j _ => by simp [World.frozen?, hb]) hnc hcl (by rw [← htake, Nat.mul_one]) h1 hab.1 hab.2 ((hF gb).2 rfl)
      have hlc : (cpy cs a b).length = n := by simp [cpy, hcl]; omega
      exact ⟨w', k1, ⟨by omega, .inr ⟨gb, cap, cur', rfl, hb0, k2, hnc, hcm, by rw [k3]; exact hcsz, by rw [Nat.mul_one]; exact k4⟩⟩, k5⟩
  obtain ⟨w', e1, e2, e3⟩ := key
  have hrun : (execOp A.eval ⟨some d, .call ⟨.builtin .copy, #[x, y], #[t, t']⟩, ty, pos, aft, g⟩).run C.P w = .ok (.value (.int .i64 ((n - b : Nat) : Int))) w' := by
    simp [execOp, resolve, invoke, builtin, opv_eval hs hx, opv_eval hs hy, e1, goInt]
  simp only [Oper.wp, hrun, Oper.upon]
  refine hK _ _ (h _ _ ?_)
  have hlt : i < own.length := (List.getElem?_eq_some_iff.1 hi).1
  have hup := HW.update (own2 := []) (A' := row v E0 1 n (cpy cs a b)) hf hh hal hlt e3 (HeapAt.one (row_of e2)) (fun j b hb => .inl ((hF b).2 hb.2))
  rw [List.append_nil] at hup
  exact hs.put hup (d := some d) (fun i hi => by cases hi; simpa [Nat.blt_eq] using hd) _
theorem AK.copyZ (i : Nat) {d : Nat} {x y : Operand} {t t' E E0 : TypeId} {v : Value} {n a b : Nat} {cs : List Value} (hi : own[i]? = some (rowZ v E0 n cs)) (ht : SlT C.P t E 1) (hx : opv ⟨sl, own⟩ x = some (slFr v 1 a)) (hy : opv ⟨sl, own⟩ y = some (slFr v 1 b)) (hab : a ≤ b ∧ b ≤ n) (h1 : one' cs) (hg : Grd ops sl g) (hd : Nat.blt d C.N = true)
    (h : AK C ⟨(d, .int .i64 ((n - b : Nat) : Int)) :: sl, own.set i (rowZ v E0 n (cpy cs a b))⟩ (wpList C.P ops Q rest)) :
    AK C ⟨sl, own⟩ (wpList C.P ops Q (⟨some d, .call ⟨.builtin .copy, #[x, y], #[t, t']⟩, ty, pos, aft, g⟩ :: rest)) := by
  intro A w hs
  refine wpList_step fun K hK => ?_
  rw [if_pos (wanted_of_Grd hs hg)]
  obtain ⟨hf, Fs, hh, hal⟩ := hs.world
  have hA := hh.at_ i _ hi
  have key : ∃ w', (Builtin.copy_ #[t, t'] ty #[slFr v 1 a, slFr v 1 b]).run C.P w = .ok (goInt ((n - b : Nat) : Int)) w' ∧ (rowZ v E0 n (cpy cs a b)).holds w' (Fs i) ∧ FrameX (Fs i) w w' := by
    obtain ⟨⟨gb, cap, cur, fz, rfl, hcp, hb, h1', h2, h3, h4, h5⟩, hF⟩ := hA
    obtain ⟨w', cur', k1, k2, k3, k4, k5⟩ := copy_core (P := C.P) (ty := ty) (t' := t') (F := Fs i) ht hb h2 (fun j hj => by
      simp only [World.frozen?, hb]
      have : ¬ fz.1 ≤ j := by omega
      simp [this]) hcp h4 h5 h1 hab.1 hab.2 ((hF gb).2 rfl)
    have hlc : (cpy cs a b).length = n := by simp [cpy, h4]; omega
    exact ⟨w', k1, ⟨⟨gb, cap, cur', fz, rfl, hcp, k2, h1', by omega, h3, hlc, k4⟩, hF⟩, k5⟩
  obtain ⟨w', e1, e2, e3⟩ := key
  have hrun : (execOp A.eval ⟨some d, .call ⟨.builtin .copy, #[x, y], #[t, t']⟩, ty, pos, aft, g⟩).run C.P w = .ok (.value (.int .i64 ((n - b : Nat) : Int))) w' := by
    simp [execOp, resolve, invoke, builtin, opv_eval hs hx, opv_eval hs hy, e1, goInt]
  simp only [Oper.wp, hrun, Oper.upon]
  refine hK _ _ (h _ _ ?_)
  have hlt : i < own.length := (List.getElem?_eq_some_iff.1 hi).1
  have hup := HW.update (own2 := []) (A' := rowZ v E0 n (cpy cs a b)) hf hh hal hlt e3 (HeapAt.one e2) (fun j b hb => .inl hb.2)
  rw [List.append_nil] at hup
  exact hs.put hup (d := some d) (fun i hi => by cases hi; simpa [Nat.blt_eq] using hd) _
end cuts2
end Go.Sx
