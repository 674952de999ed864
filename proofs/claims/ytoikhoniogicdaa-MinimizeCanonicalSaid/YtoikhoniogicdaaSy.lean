import Derived.Test.YtoikhoniogicdaaSx
import Derived.StillTail
namespace Go.Sx
open Go.RowKit

/-! ### writing -/
def one' (us : List Value) : Prop := ∀ u ∈ us, u.oneCell' = true

section eff
variable {C : Cx} {sl : List (Nat × Value)} {own : List Asn} {ops : Array Oper} {Q : Exit → Act → World → Prop} {ty : TypeId} {pos : String} {aft : Array Edge} {g : Option (Nat × Bool)} {rest : List Oper}

theorem FrameX.ofGrown {w w' : World} {r : Option Nat} {F : Nat → Prop} (h : w.grownBy w' r) (hF : ∀ k, some k = r → F k) : FrameX F w w' :=
  ⟨h.os, h.tape, h.output, h.size, fun k hk hn => h.block k hk (fun e => hn (hF k e))⟩

theorem row_of {w : World} {v : Value} {E : TypeId} {sz n : Nat} {cs : List Value} (h : w.ownsRow 0 E sz v n cs) : (row v E sz n cs).holds w (fun b => v.ownBlock = some b) := ⟨h, fun _ => Iff.rfl⟩

theorem ownsRow_base {w : World} {B B' : Nat} {E : TypeId} {sz n : Nat} {v : Value} {cs : List Value} (h : w.ownsRow B E sz v n cs) (hb : ∀ b, v.ownBlock = some b → B' ≤ b) : w.ownsRow B' E sz v n cs := by
  refine ⟨h.1, ?_⟩
  rcases h.2 with h2 | ⟨gb, cap, cur, hv, hg, hh, r⟩
  · exact .inl h2
  · exact .inr ⟨gb, cap, cur, hv, hb gb (by rw [hv]; rfl), hh, r⟩

/-- a new nil slice is taken for owned -/
theorem HW.ghost {C : Cx} {own : List Asn} {w : World} (h : HW C own w) (E : TypeId) (sz : Nat) : HW C (own ++ [row (.slice none 0 0) E sz 0 []]) w :=
  h.push (FrameX.refl _ w) (HeapAt.one (row_of (World.ownsRow_nil w 0 E sz))) (fun j b hb => by simp [Value.ownBlock] at hb)

theorem AK.ghost {K : Act → World → Prop} (E : TypeId) (sz : Nat) (h : AK C ⟨sl, own ++ [row (.slice none 0 0) E sz 0 []]⟩ K) : AK C ⟨sl, own⟩ K :=
  fun a w hs => h a w ⟨hs.size, hs.defers, hs.slot, hs.world.ghost E sz⟩

/-- make([]T, n) -/
theorem AK.make {d : Nat} {t E : TypeId} {l c : Operand} {sz s' by_ : Nat} {z : Value} {n : Nat} (ht : SlT C.P t E sz) (hE : ElT C.P E z s' by_) (hl : opv ⟨sl, own⟩ l = some (.int .i64 (n : Int))) (hc : opv ⟨sl, own⟩ c = some (.int .i64 (n : Int)))
    (hb : by_ * n ≤ 281474976710656) (hm : n ≤ 9223372036854775807) (hg : Grd ops sl g) (hd : Nat.blt d C.N = true)
    (h : ∀ v, AK C ⟨(d, v) :: sl, own ++ [row v E sz n (madeCells z.cells (n * sz)).toList]⟩ (wpList C.P ops Q rest)) :
    AK C ⟨sl, own⟩ (wpList C.P ops Q (⟨some d, .makeSlice t l c, ty, pos, aft, g⟩ :: rest)) := by
  intro a w hs
  refine wpList_step fun K hK => ?_
  rw [if_pos (wanted_of_Grd hs hg)]
  obtain ⟨i, hi1, hi2, hi3, hi4⟩ := hE.inf
  obtain ⟨i', hi', hsz⟩ := ht.inf
  rw [hi1] at hi'; cases hi'
  subst hi4
  obtain ⟨w', hr, hown, hgr⟩ := run_make_full (P := C.P) w w.heap.size t E i z sz ht.1 hi1 hi2 hsz .i64 .i64 n hb (by simpa [maxLen] using hm) (Nat.le_refl _)
  have hrun : (execOp a.eval ⟨some d, .makeSlice t l c, ty, pos, aft, g⟩).run C.P w = .ok (.value (.slice (some ⟨w.heap.size, 0, none⟩) n n)) w' := by
    simp only [execOp, opv_eval hs hl, opv_eval hs hc, Sem.run_bind, hr, Result.andThen_ok, Sem.run_pure]
  simp only [Oper.wp, hrun, Oper.upon]
  refine hK _ _ (h (.slice (some ⟨w.heap.size, 0, none⟩) n n) _ _ ?_)
  refine hs.put (hs.world.push (.ofGrown hgr (by simp)) (HeapAt.one (row_of (ownsRow_base hown (fun b _ => Nat.zero_le _)))) (fun j b hb => ?_)) (d := some d) (fun i hi => by cases hi; simpa [Nat.blt_eq] using hd) _
  obtain ⟨_, hb⟩ := hb
  simp [Value.ownBlock] at hb
  omega

theorem madeCells_rep {z : Value} {n : Nat} (hz : z.cells = #[z]) : (madeCells z.cells (n * 1)).toList = List.replicate n z := by
  rw [hz, Nat.mul_one]; exact toList_madeCells_one z n

theorem AK.make1 {d : Nat} {t E : TypeId} {l c : Operand} {s' by_ : Nat} {z : Value} {n : Nat} (ht : SlT C.P t E 1) (hE : ElT C.P E z s' by_) (hz : z.cells = #[z]) (hl : opv ⟨sl, own⟩ l = some (.int .i64 (n : Int))) (hc : opv ⟨sl, own⟩ c = some (.int .i64 (n : Int)))
    (hb : by_ * n ≤ 281474976710656) (hm : n ≤ 9223372036854775807) (hg : Grd ops sl g) (hd : Nat.blt d C.N = true)
    (h : ∀ v, AK C ⟨(d, v) :: sl, own ++ [row v E 1 n (List.replicate n z)]⟩ (wpList C.P ops Q rest)) :
    AK C ⟨sl, own⟩ (wpList C.P ops Q (⟨some d, .makeSlice t l c, ty, pos, aft, g⟩ :: rest)) :=
  AK.make ht hE hl hc hb hm hg hd (fun v => by rw [madeCells_rep hz]; exact h v)

/-- an append to a row that is owned: where the new row lies -/
theorem run_append_at {P : Program} (w : World) (t ty e : TypeId) (i : TypeInfo) (z : Value) (size bytes : Nat) (ht : P.underlying t = some (.slice e)) (hi : P.info? e = some i) (hz : i.zero = some z)
    (hsize : i.size = size) (hby : i.bytes = bytes) (hzs : z.cells.size = size) (hsz : 0 < size)
    (v : Value) (n : Nat) (xs : List Value) (hown : w.ownsRow 0 e size v n xs)
    (a : Addr) (m c : Nat) (news : List Value) (hl : news.length = m * size) (hnews : ∀ j u, news[j]? = some u → w.cell? (a.add j) = some u) (h1 : ∀ u ∈ news, u.oneCell' = true)
    (h63 : n + m ≤ maxLen) (hbytes : (n + m) * bytes ≤ 140737488355328) :
    ∃ v' w', (Builtin.append_ #[t, t] ty #[v, .slice (some a) m c]).run P w = .ok v' w' ∧ w'.ownsRow 0 e size v' (n + m) (xs ++ news) ∧ w.grownBy w' v.ownBlock ∧
      (∀ b, v'.ownBlock = some b → v.ownBlock = some b ∨ w.heap.size ≤ b) := by
  by_cases hfit : (∃ gb cap, v = .slice (some ⟨gb, 0, none⟩) n cap ∧ n + m ≤ cap)
  · obtain ⟨gb, cap, rfl, hroom⟩ := hfit
    rcases hown.2 with ⟨h, _⟩ | ⟨g', cap', cur, h', _, hg, hnc, hcm, hcs, htake⟩
    · simp at h
    · simp only [Value.slice.injEq, Option.some.injEq, Addr.mk.injEq, and_true, true_and] at h'
      obtain ⟨rfl, rfl⟩ := h'
      subst hsize
      have hlen : (xs ++ news).length = (n + m) * i.size := by rw [List.length_append, hown.1, hl, Nat.add_mul]
      have hfit : n * i.size + news.length ≤ cur.size := by rw [hl, hcs, ← Nat.add_mul]; exact Nat.mul_le_mul_right _ hroom
      have hr := run_append_room (P := P) w t ty e i ht hi gb n cap cur hg a m c news hl hnews h1 hroom hfit
      refine ⟨_, _, hr, ⟨hlen, .inr ⟨gb, cap, _, rfl, Nat.zero_le _, setRow_heap w gb cur _ e _ hg, hroom, hcm, ?_, ?_⟩⟩, ⟨rfl, rfl, rfl, by simp, fun k _ hk => setRow_other w gb k _ (fun e => hk (by simp [Value.ownBlock, e]))⟩, fun b hb => .inl hb⟩
      · simp only [List.size_toArray, List.length_append, List.length_take, List.length_drop, Array.length_toList]
        omega
      · rw [htake, ← hlen]
        exact List.take_left
  · rcases hown.2 with ⟨rfl, rfl⟩ | ⟨gb, cap, cur, rfl, _, hg, hnc, hcm, hcs, htake⟩
    · obtain ⟨v', w', e1, e2, e3, _⟩ := run_append_own (P := P) w w.heap.size t ty e i z size bytes ht hi hz hsize hby hzs hsz _ 0 xs (ownsRow_base hown (by simp [Value.ownBlock])) a m c news hl hnews h1 h63 hbytes (Nat.le_refl _)
      exact ⟨v', w', e1, ownsRow_base e2 (fun b _ => Nat.zero_le _), e3, fun b hb => .inr (e2.lt b hb).1⟩
    · subst hsize
      subst hby
      have hno : ¬ n + m ≤ cap := fun h => hfit ⟨gb, cap, rfl, h⟩
      have hsmall : n + m ≤ 9223372036854775807 := by simp only [maxLen] at h63; omega
      have holds : ∀ j u, xs[j]? = some u → w.cell? ((⟨gb, 0, none⟩ : Addr).add j) = some u := hown.cells (g := gb) rfl
      have hr := run_append_grow (P := P) w t ty e i z ht hi hz ⟨gb, 0, none⟩ n cap xs hown.1 holds a m c news hl hnews (by omega) (by omega) (growslice_fits (by omega) hbytes)
      have hlen : (xs ++ news).length = (n + m) * i.size := by rw [List.length_append, hown.1, hl, Nat.add_mul]
      have hge := grownCap_ge w (n + m) cap e
      have hcm' : grownCap w (n + m) cap e ≤ maxLen := grownCap_le_maxLen w (n + m) cap e h63
      refine ⟨_, _, hr, ⟨hlen, .inr ⟨w.heap.size, _, _, rfl, Nat.zero_le _, heap_alloc_new w.drew _, hge, hcm', ?_, ?_⟩⟩, ⟨rfl, rfl, rfl, by simp, fun k hk _ => Below.heap_alloc w.drew _ k hk⟩, fun b hb => .inr (by simp [Value.ownBlock] at hb; omega)⟩
      · simp only [Array.size_append, List.size_toArray, size_zeroCells, hzs, hown.1, hl, ← Nat.add_mul]
        congr 1
        omega
      · simp only [Array.toList_append, List.append_assoc]
        rw [← List.append_assoc, ← hlen]
        exact List.take_left

/-- append(s, xs...), s owned -/
theorem AK.appendS (i : Nat) {d : Nat} {s x : Operand} {t t' E : TypeId} {sz by_ : Nat} {z v v2 : Value} {n m : Nat} {cs cs2 : List Value} (hi : own[i]? = some (row v E sz n cs)) (ht : SlT C.P t E sz) (hE : ElT C.P E z sz by_) (hz : z.cells.size = sz) (hsz : 0 < sz) (htt : t' = t)
    (hx : opv ⟨sl, own⟩ s = some v) (hy : opv ⟨sl, own⟩ x = some v2) (hr : RdS C own v2 sz m cs2) (h1 : one' cs2) (hm : n + m ≤ 9223372036854775807) (hb : (n + m) * by_ ≤ 140737488355328) (hg : Grd ops sl g) (hd : Nat.blt d C.N = true)
    (h : ∀ v', AK C ⟨(d, v') :: sl, own.set i (row v' E sz (n + m) (cs ++ cs2))⟩ (wpList C.P ops Q rest)) :
    AK C ⟨sl, own⟩ (wpList C.P ops Q (⟨some d, .call ⟨.builtin .append, #[s, x], #[t, t']⟩, ty, pos, aft, g⟩ :: rest)) := by
  subst htt
  intro a w hs
  refine wpList_step fun K hK => ?_
  rw [if_pos (wanted_of_Grd hs hg)]
  obtain ⟨inf, hi1, hi2, hi3, hi4⟩ := hE.inf
  obtain ⟨hf, Fs, hh, hal⟩ := hs.world
  obtain ⟨hown, hFs⟩ := hh.at_ i _ hi
  have hrd := hr w hs.world
  have key : ∃ v' w', (Builtin.append_ #[t', t'] ty #[v, v2]).run C.P w = .ok v' w' ∧ w'.ownsRow 0 E sz v' (n + m) (cs ++ cs2) ∧ w.grownBy w' v.ownBlock ∧ (∀ b, v'.ownBlock = some b → v.ownBlock = some b ∨ w.heap.size ≤ b) := by
    obtain ⟨oa, cap, rfl, hmm, hl2, hnn, hc2⟩ := hrd
    cases oa with
    | some ad =>
      exact run_append_at (P := C.P) w t' ty E inf z sz by_ ht.1 hi1 hi2 hi3 hi4 hz hsz v n cs hown ad m cap cs2 hl2 (fun j u hj => (hc2 ad j u rfl hj).2) h1 (by simpa [maxLen] using hm) hb
    | none =>
      have hm0 : m = 0 := by
        rcases Nat.eq_zero_or_pos m with h | h
        · exact h
        · have := hnn h hsz; simp at this
      subst hm0
      have hcs2 : cs2 = [] := List.eq_nil_of_length_eq_zero (by simpa using hl2)
      subst hcs2
      have : n ≤ (match v with | .slice _ _ c => c | _ => 0) ∧ ∃ ao c, v = .slice ao n c ∧ n ≤ c := by
        rcases hown.2 with ⟨rfl, rfl⟩ | ⟨gb, cp, cur, rfl, _, _, hnc, _⟩
        · exact ⟨Nat.le_refl _, none, 0, rfl, Nat.le_refl _⟩
        · exact ⟨hnc, _, cp, rfl, hnc⟩
      obtain ⟨_, ao, c, rfl, hnc⟩ := this
      refine ⟨.slice ao n c, w, ?_, by simpa using hown, ⟨rfl, rfl, rfl, Nat.le_refl _, fun _ _ _ => rfl⟩, fun b hb => .inl hb⟩
      cases ao with
      | none => simp [Builtin.append_, run_underlying ht.1, sizeOf, typeInfo, hi1, Builtin.lenOf, hnc, Builtin.firstCells]
      | some a0 => simp [Builtin.append_, run_underlying ht.1, sizeOf, typeInfo, hi1, Builtin.lenOf, hnc, Builtin.firstCells, storeCells]
  obtain ⟨v', w', e1, e2, e3, e4⟩ := key
  have hrun : (execOp a.eval ⟨some d, .call ⟨.builtin .append, #[s, x], #[t', t']⟩, ty, pos, aft, g⟩).run C.P w = .ok (.value v') w' := by
    simp [execOp, resolve, invoke, builtin, opv_eval hs hx, opv_eval hs hy, e1]
  simp only [Oper.wp, hrun, Oper.upon]
  refine hK _ _ (h v' _ _ ?_)
  have hlt : i < own.length := (List.getElem?_eq_some_iff.1 hi).1
  have hup := HW.update (own2 := []) (A' := row v' E sz (n + m) (cs ++ cs2)) hf hh hal hlt (.ofGrown e3 (fun k hk => (hFs k).2 hk.symm)) (HeapAt.one (row_of e2)) (fun j b hb => by
    exact (e4 b hb.2).imp (hFs b).2 id)
  rw [List.append_nil] at hup
  exact hs.put hup (d := some d) (fun i hi => by cases hi; simpa [Nat.blt_eq] using hd) v'

theorem foldl_set : ∀ (vs : List Value) (j off : Nat) (cells : Array Value), off + j + vs.length ≤ cells.size →
    (vs.zipIdx j).foldl (fun cs p => cs.setIfInBounds (off + p.2) p.1) cells = (cells.toList.take (off + j) ++ vs ++ cells.toList.drop (off + j + vs.length)).toArray
  | [], j, off, cells, h => by simp
  | v :: vs, j, off, cells, h => by
    simp only [List.zipIdx_cons, List.foldl_cons]
    rw [foldl_set vs (j + 1) off _ (by simp at h ⊢; omega)]
    congr 1
    simp only [Array.toList_setIfInBounds, List.length_cons] at h ⊢
    have hl : cells.toList.length = cells.size := Array.length_toList
    generalize cells.toList = L at hl ⊢
    have hlt : off + j < L.length := by omega
    have e1 : (L.set (off + j) v).take (off + (j + 1)) = L.take (off + j) ++ [v] := by
      rw [show off + (j + 1) = (off + j) + 1 from by omega, List.take_succ_eq_append_getElem (by simpa using hlt), List.take_set_of_le (Nat.le_refl _)]
      simp
    have e2 : (L.set (off + j) v).drop (off + (j + 1) + vs.length) = L.drop (off + j + (vs.length + 1)) := by
      rw [List.drop_set_of_lt (by omega)]
      congr 1
      omega
    rw [e1, e2]
    simp

theorem fill_enum {sz : Nat} : ∀ (us : List Value) (k : Nat) (cells : Array Value), (∀ u ∈ us, u.cells.size = sz) → k * sz + us.length * sz ≤ cells.size →
    Instr.fill (fun i => some (i * sz, sz)) cells ((us.zipIdx k).map fun p => (p.2, p.1)) = some (cells.toList.take (k * sz) ++ us.flatMap (·.cells.toList) ++ cells.toList.drop (k * sz + us.length * sz)).toArray
  | [], k, cells, _, h => by simp [Instr.fill]
  | u :: us, k, cells, hu, h => by
    have hus := hu u (by simp)
    have hfit : k * sz + sz ≤ cells.size := by simp only [List.length_cons, Nat.succ_mul] at h; omega
    simp only [List.zipIdx_cons, List.map_cons, Instr.fill]
    rw [if_neg (by simp [hus]; omega)]
    have hf := foldl_set u.cells.toList 0 (k * sz) cells (by simp [hus]; omega)
    have he : u.cells.zipIdx.foldl (fun cs x => match x with | (c, j) => cs.setIfInBounds (k * sz + j) c) cells = (u.cells.toList.zipIdx 0).foldl (fun cs p => cs.setIfInBounds (k * sz + p.2) p.1) cells := by
      rw [← Array.foldl_toList, Array.toList_zipIdx]
    rw [he, hf]
    have hul : u.cells.toList.length = sz := by simp [hus]
    rw [fill_enum us (k + 1) _ (fun x hx => hu x (by simp [hx])) (by simp only [List.length_cons, Nat.succ_mul] at h ⊢; simp; omega)]
    congr 2
    simp only [List.flatMap_cons, Nat.add_zero, List.length_cons, Nat.succ_mul]
    have hl : cells.toList.length = cells.size := Array.length_toList
    generalize cells.toList = L at hl ⊢
    generalize us.flatMap (·.cells.toList) = M
    generalize hU : u.cells.toList = U at hul ⊢
    have e1 : (L.take (k * sz) ++ U ++ L.drop (k * sz + U.length)).take (k * sz + sz) = L.take (k * sz) ++ U := by
      rw [List.take_append_of_le_length (by simp; omega), List.take_of_length_le (by simp; omega)]
    have e2 : (L.take (k * sz) ++ U ++ L.drop (k * sz + U.length)).drop (k * sz + sz + us.length * sz) = L.drop (k * sz + (us.length * sz + sz)) := by
      rw [List.drop_append]
      rw [List.drop_eq_nil_of_le (by simp; omega), List.nil_append, List.drop_drop]
      congr 1
      simp
      omega
    rw [e1, e2]
    simp

def enumOps (xs : List Operand) : List (Nat × Operand) := xs.zipIdx.map fun p => (p.2, p.1)

/-- a slice that is written out: []T{..} -/
theorem AK.lit {d : Nat} {t E : TypeId} {sz by_ : Nat} {z : Value} {xs : List Operand} {us : List Value} {n : Nat} {parts : List (Nat × Operand)} (ht : SlT C.P t E sz) (hE : ElT C.P E z sz by_) (hp : parts = enumOps xs) (hn : n = xs.length) (hx : opvs ⟨sl, own⟩ xs = some us)
    (hu : ∀ u ∈ us, u.cells.size = sz) (hb : n * sz ≤ 16777216) (hbn : n ≤ 16777216) (hg : Grd ops sl g) (hd : Nat.blt d C.N = true)
    (h : ∀ v, AK C ⟨(d, v) :: sl, own ++ [row v E sz n (us.flatMap (·.cells.toList))]⟩ (wpList C.P ops Q rest)) :
    AK C ⟨sl, own⟩ (wpList C.P ops Q (⟨some d, .buildSlice t n parts.toArray, ty, pos, aft, g⟩ :: rest)) := by
  intro a w hs
  refine wpList_step fun K hK => ?_
  rw [if_pos (wanted_of_Grd hs hg)]
  obtain ⟨i, hi1, hi2, hi3, hi4⟩ := hE.inf
  have he := opvs_eval hs hx
  have hlen : us.length = n := by rw [← he, List.length_map, hn]
  have hparts : (parts.toArray.map fun x => (x.1, a.eval x.2)).toList = (us.zipIdx 0).map fun p => (p.2, p.1) := by
    subst hp; subst he
    simp [enumOps, List.zipIdx_map, Function.comp_def]
  have hcells : ∀ c : Array Value, c.size = n * sz → Instr.fill (fun i => some (i * sz, sz)) c ((us.zipIdx 0).map fun p => (p.2, p.1)) = some (us.flatMap (·.cells.toList)).toArray := by
    intro c hc
    rw [fill_enum us 0 c hu (by simp [hlen, hc])]
    simp [hlen, hc]
  have hfl : (us.flatMap (·.cells.toList)).length = n * sz := by
    rw [← hlen]; clear hlen hx hcells hparts he h
    induction us with
    | nil => simp
    | cons u us ih => simp only [List.flatMap_cons, List.length_append, List.length_cons, Nat.succ_mul]; rw [ih (fun x hx => hu x (by simp [hx]))]; have := hu u (by simp); simp [this]; omega
  have hrun : (execOp a.eval ⟨some d, .buildSlice t n parts.toArray, ty, pos, aft, g⟩).run C.P w = .ok (.value (.slice (some ⟨w.heap.size, 0, none⟩) n n)) (w.alloc (.cells (us.flatMap (·.cells.toList)).toArray E)) := by
    have hparts' : (parts.map fun x => (x.1, a.eval x.2)) = (us.zipIdx 0).map fun p => (p.2, p.1) := by simpa using hparts
    simp only [execOp, Instr.buildSlice]
    have hsz : (sizeOf E).run C.P w = .ok sz w := run_sizeOf_of ht.2 w
    by_cases h0 : n * sz = 0
    · have := hcells ((Array.range 0).map fun _ => default) (by simp [h0])
      simp only [Sem.run_bind, run_underlying ht.1, Result.andThen_ok, hsz]
      rw [if_neg (by omega)]
      simp only [Sem.run_bind, Sem.run_pure, Result.andThen_ok, h0, if_true]
      simp [hparts', this, newRow]
    · have := hcells ((Array.range (n * sz)).map (z.cells[· % z.cells.size]!)) (by simp)
      simp only [Sem.run_bind, run_underlying ht.1, Result.andThen_ok, hsz]
      rw [if_neg (by omega)]
      simp only [Sem.run_bind, Sem.run_pure, Result.andThen_ok, h0, if_false]
      simp [zeroValue, typeInfo, hi1, hi2, hparts', this, newRow]
  simp only [Oper.wp, hrun, Oper.upon]
  refine hK _ _ (h (.slice (some ⟨w.heap.size, 0, none⟩) n n) _ _ ?_)
  have hown := World.ownsRow_lit (base := 0) (e := E) (size := sz) w (us.flatMap (·.cells.toList)).toArray n (Nat.zero_le _) (by unfold maxLen; omega) (by simpa using hfl)
  refine hs.put (hs.world.push (.ofGrown (World.grownBy_alloc w _ none) (by simp)) (HeapAt.one (row_of hown)) (fun j b hb => ?_)) (d := some d) (fun i hi => by cases hi; simpa [Nat.blt_eq] using hd) _
  obtain ⟨_, hb⟩ := hb
  simp [Value.ownBlock] at hb
  omega

end eff

section eff2
variable {C : Cx} {sl : List (Nat × Value)} {own : List Asn} {ops : Array Oper} {Q : Exit → Act → World → Prop} {ty : TypeId} {pos : String} {aft : Array Edge} {g : Option (Nat × Bool)} {rest : List Oper}

/-- the first part of what is owned -/
theorem HW.take {C : Cx} {own l : List Asn} {w : World} (h : HW C (own ++ l) w) : HW C own w := by
  obtain ⟨hf, Fs, hh, hal⟩ := h
  refine ⟨hf, fun k b => k < own.length ∧ Fs k b, ⟨?_, ?_, ?_⟩, fun k b hb => hal k b hb.2⟩
  · intro k A hk
    have hlt := (List.getElem?_eq_some_iff.1 hk).1
    have := hh.at_ k A (by rw [List.getElem?_append_left hlt]; exact hk)
    simpa [hlt] using this
  · rintro k hk b ⟨h, _⟩; omega
  · rintro k j b ⟨_, h1⟩ ⟨_, h2⟩; exact hh.apart k j b h1 h2

def IsSl (v : Value) : Prop := ∃ ao n c, v = .slice ao n c
theorem IsSl.cells {v : Value} (h : IsSl v) : v.cells = #[v] := by obtain ⟨_, _, _, rfl⟩ := h; rfl
theorem IsSl.one {v : Value} (h : IsSl v) : v.oneCell' = true := by obtain ⟨_, _, _, rfl⟩ := h; rfl
theorem row_sl {w : World} {F : Nat → Prop} {v : Value} {E : TypeId} {sz n : Nat} {cs : List Value} (h : (row v E sz n cs).holds w F) : IsSl v := by
  rcases h.1.2 with ⟨h2, _⟩ | ⟨gb, cap, cur, hv, _⟩
  · exact ⟨_, _, _, h2⟩
  · exact ⟨_, _, _, hv⟩
/-- what the owned assertions say of values -/
theorem AK.fact {C : Cx} {st : St} {K : Act → World → Prop} {p : Prop} (hp : ∀ w, HW C st.own w → p) (h : p → AK C st K) : AK C st K := fun a w hs => h (hp w hs.world) a w hs
theorem HW.shape {C : Cx} {own : List Asn} {v : Value} {E : TypeId} {sz n : Nat} {cs : List Value} {w : World} (i : Nat) (hw : HW C own w) (hi : own[i]? = some (row v E sz n cs)) : IsSl v := by
  obtain ⟨_, Fs, hh, _⟩ := hw
  exact row_sl (hh.at_ i _ hi)

/-- append(s, x), s owned: the operand x is first laid in a row of its own -/
theorem AK.append1 (i : Nat) {d1 d2 : Nat} {s x : Operand} {t E : TypeId} {sz by_ : Nat} {z v u : Value} {n : Nat} {cs : List Value} {ty2 : TypeId} {pos2 : String} {aft2 : Array Edge} (hi : own[i]? = some (row v E sz n cs)) (ht : SlT C.P t E sz) (hE : ElT C.P E z sz by_) (hz : z.cells.size = sz) (hsz : 0 < sz)
    (hxs : opvs ⟨sl, own⟩ [s, x] = some [v, u]) (hne : ∀ k, s = .tmp k → (d1 == k) = false) (hu : u.cells.size = sz) (h1 : one' u.cells.toList) (hm : n + 1 ≤ 9223372036854775807) (hb : (n + 1) * by_ ≤ 140737488355328) (hb2 : sz ≤ 16777216) (hd1 : Nat.blt d1 C.N = true) (hd : Nat.blt d2 C.N = true)
    (h : ∀ v' t', IsSl v' → AK C ⟨(d2, v') :: (d1, t') :: sl, own.set i (row v' E sz (n + 1) (cs ++ u.cells.toList))⟩ (wpList C.P ops Q rest)) :
    AK C ⟨sl, own⟩ (wpList C.P ops Q (⟨some d1, .buildSlice t 1 #[(0, x)], ty, pos, aft, none⟩ :: ⟨some d2, .call ⟨.builtin .append, #[s, .tmp d1], #[t, t]⟩, ty2, pos2, aft2, none⟩ :: rest)) := by
  have hs' : opv ⟨sl, own⟩ s = some v ∧ opv ⟨sl, own⟩ x = some u := by
    simp only [opvs] at hxs
    cases e1 : opv ⟨sl, own⟩ s <;> cases e2 : opv ⟨sl, own⟩ x <;> simp [e1, e2] at hxs
    exact ⟨by rw [hxs.1], by rw [hxs.2]⟩
  have hilt := (List.getElem?_eq_some_iff.1 hi).1
  refine AK.lit (xs := [x]) (us := [u]) ht hE rfl rfl (by simp [opvs, hs'.2]) (by simpa using hu) (by omega) (by omega) trivial hd1 fun tv => ?_
  refine AK.appendS i (v := v) (v2 := tv) (n := n) (m := 1) (cs := cs) (cs2 := u.cells.toList) (by rw [List.getElem?_append_left hilt]; exact hi) ht hE hz hsz rfl ?_ (by simp [opv, get]) (RdS.own own.length (E := E) (by simp)) h1 hm hb trivial hd fun v' => ?_
  · cases s with
    | tmp k => have := hne k rfl; simp only [beq_eq_false_iff_ne, ne_eq] at this; simp only [opv, get, this, if_false]; exact hs'.1
    | const c => exact hs'.1
    | global c => exact hs'.1
    | func c => exact hs'.1
  · intro a w hs
    have hw2 : HW C (own.set i (row v' E sz (n + 1) (cs ++ u.cells.toList))) w := by
      have := hs.world
      rw [List.set_append_left _ _ hilt] at this
      exact this.take
    exact h v' tv (hw2.shape (E := E) (sz := sz) (n := n + 1) (cs := cs ++ u.cells.toList) i (by simp [hilt])) a w ⟨hs.size, hs.defers, hs.slot, hw2⟩

theorem row_grown {w : World} {v : Value} {E : TypeId} {sz n : Nat} {cs : List Value} {F : Nat → Prop} (h : (row v E sz n cs).holds w F) {j : Nat} (hj : j < n * sz) (u : Value) :
    (w.setCell ((slA v).add j) u).ownsRow 0 E sz v n (cs.set j u) ∧ FrameX F w (w.setCell ((slA v).add j) u) ∧ (w.cell? ((slA v).add j)).isSome ∧ w.frozen? ((slA v).add j) = false := by
  obtain ⟨hown, hF⟩ := h
  rcases hown.2 with ⟨rfl, rfl⟩ | ⟨gb, cap, cur, rfl, hb, hg, hnc, hcm, hcs, htake⟩
  · omega
  · obtain ⟨h1, h2⟩ := hown.stored j u
    have ha : ((slA (.slice (some ⟨gb, 0, none⟩) n cap)).add j) = ⟨gb, j, none⟩ := by simp [slA, Addr.add_lit]
    rw [ha]
    refine ⟨h1, .ofGrown h2 (fun k hk => by cases hk; exact (hF gb).2 rfl), ?_, hown.frozenAt j⟩
    have hjl : j < cs.length := by rw [hown.1]; exact hj
    rw [hown.cellAt j hj, List.getElem?_eq_getElem hjl]
    rfl

/-- s[i] = x, s owned, cells of one -/
theorem AK.store1 (i : Nat) {t E : TypeId} {x y : Operand} {v u : Value} {n j : Nat} {cs : List Value} (hi : own[i]? = some (row v E 1 n cs)) (hs1 : (C.P.info? t).map (·.size) = some 1) (hx : opv ⟨sl, own⟩ x = some (.pointer (some ((slA v).add (j * 1))))) (hy : opv ⟨sl, own⟩ y = some u)
    (hu : u.cells = #[u]) (h1 : u.oneCell' = true) (hj : j < n) (hg : Grd ops sl g) (h : AK C ⟨sl, own.set i (row v E 1 n (cs.set j u))⟩ (wpList C.P ops Q rest)) :
    AK C ⟨sl, own⟩ (wpList C.P ops Q (⟨none, .store t x y, ty, pos, aft, g⟩ :: rest)) := by
  intro a w hs
  refine wpList_step fun K hK => ?_
  rw [if_pos (wanted_of_Grd hs hg)]
  obtain ⟨hf, Fs, hh, hal⟩ := hs.world
  have hA := hh.at_ i _ hi
  obtain ⟨e1, e2, e3, e4⟩ := row_grown hA (j := j) (by omega) u
  rw [Nat.mul_one] at hx
  have hst : (store ((slA v).add j) u).run C.P w = .ok () (w.setCell ((slA v).add j) u) := by
    obtain ⟨u0, hu0⟩ := Option.isSome_iff_exists.1 e3
    rw [run_store _ _ _ _ _ h1, hu0, e4]; rfl
  have hadd : ∀ a : Addr, a.add 0 = a := fun a => by simp [Addr.add]
  have hrun : (execOp a.eval ⟨none, .store t x y, ty, pos, aft, g⟩).run C.P w = .ok .skip (w.setCell ((slA v).add j) u) := by
    simp only [execOp, opv_eval hs hx, opv_eval hs hy, Instr.storeAt, Instr.sureAddr, storeVar, Sem.run_bind, Sem.run_pure, Result.andThen_ok, run_sizeOf_of hs1, hu]
    simp [storeCells, hst, hadd]
  simp only [Oper.wp, hrun, Oper.upon]
  refine hK _ _ (h _ _ ?_)
  have hlt : i < own.length := (List.getElem?_eq_some_iff.1 hi).1
  have hup := HW.update (own2 := []) (A' := row v E 1 n (cs.set j u)) hf hh hal hlt e2 (HeapAt.one (row_of e1)) (fun k b hb => .inl ((hA.2 b).2 hb.2))
  rw [List.append_nil] at hup
  exact hs.put hup (d := none) (fun i hi => by cases hi) undef

end eff2

/-! ### regions that draw their order -/
structure SimF (C : Cx) (sl : List (Nat × Value)) (a : Act) : Prop where
  size : a.tmps.size = C.N
  defers : a.defers = []
  slot : ∀ i v, get sl i = some v → a.tmps.getD i undef = v

theorem SimF.sim {C : Cx} {sl : List (Nat × Value)} {own : List Asn} {a : Act} {w : World} (h : SimF C sl a) (hw : HW C own w) : Sim C ⟨sl, own⟩ a w := ⟨h.size, h.defers, h.slot, hw⟩
theorem Sim.simF {C : Cx} {sl : List (Nat × Value)} {own : List Asn} {a : Act} {w : World} (h : Sim C ⟨sl, own⟩ a w) : SimF C sl a := ⟨h.size, h.defers, h.slot⟩

theorem SimF.put {C : Cx} {sl : List (Nat × Value)} {a : Act} (h : SimF C sl a) {d : Nat} (hd : Nat.blt d C.N = true) (v : Value) : SimF C ((d, v) :: sl) (a.put (some d) v) := by
  refine ⟨by simp [Act.put, h.size], h.defers, fun j u hj => ?_⟩
  simp only [get] at hj
  have hi : d < a.tmps.size := by rw [h.size]; simpa [Nat.blt_eq] using hd
  simp only [Act.put]
  split at hj
  · rename_i e; subst e
    simp only [Option.some.injEq] at hj
    subst hj
    simp [hi]
  · rename_i e
    have := h.slot j u hj
    simp only [Array.getD_eq_getD_getElem?] at this ⊢
    rw [Array.getElem?_setIfInBounds, if_neg e]
    exact this

theorem wanted_of_GrdF {C : Cx} {sl : List (Nat × Value)} {a : Act} (hs : SimF C sl a) {ops : Array Oper} {o : Oper} (hg : Grd ops sl o.guard) : Region.wanted o (yielded ops a.tmps) = true :=
  wanted_of_Grd (C := ⟨C.P, C.N, default, fun _ => False⟩) (st := ⟨sl, []⟩) (w := default) ⟨hs.size, hs.defers, hs.slot, ⟨FrameX.refl _ _, _, HeapAt.nil _, fun _ _ h => h.elim⟩⟩ hg

theorem unwanted_of {C : Cx} {sl : List (Nat × Value)} {a : Act} (hs : SimF C sl a) {ops : Array Oper} {d : Nat} {op : Op} {ty : TypeId} {pos : String} {aft : Array Edge} {j : Nat} {want : Bool} {gd : Nat} {gv : Value}
    (h1 : (ops[j]?).bind (·.dst) = some gd) (h2 : get sl gd = some gv) (h3 : NotB gv want) : Region.wanted (⟨some d, op, ty, pos, aft, some (j, want)⟩ : Oper) (yielded ops a.tmps) = false := by
  have h4 := hs.slot gd _ h2
  cases ho : ops[j]? with
  | none => simp [ho] at h1
  | some o' =>
    simp only [ho, Option.bind_some] at h1
    simp only [Array.getD_eq_getD_getElem?] at h4
    simp only [Region.wanted, yielded, ho, Option.bind_some, h1]
    cases hq : a.tmps[gd]? with
    | none => simp [hq] at h4 ⊢
    | some u =>
      simp [hq] at h4
      subst h4
      cases u <;> simp [NotB] at h3 ⊢
      subst h3
      cases want <;> simp

/-- the quiet walk: every world in which the owned assertions hold -/
def QK (C : Cx) (st : St) (K : Act → Prop) : Prop := ∀ a, SimF C st.sl a → K a

section quiet
variable {C : Cx} {sl : List (Nat × Value)} {own : List Asn} {ops : Array Oper} {Qq : Act → Prop} {d : Nat} {op : Op} {ty : TypeId} {pos : String} {aft : Array Edge} {g : Option (Nat × Bool)} {rest : List Oper}

theorem QK.nil (h : QK C ⟨sl, own⟩ Qq) : QK C ⟨sl, own⟩ (wpQuiet C.P ops (HW C own) Qq []) := fun a hs => wpQuiet_nil (h a hs)

theorem QK.val (v : Value) (hy : Yl C ⟨sl, own⟩ ⟨some d, op, ty, pos, aft, g⟩ v) (hg : Grd ops sl g) (hd : Nat.blt d C.N = true) (h : QK C ⟨(d, v) :: sl, own⟩ (wpQuiet C.P ops (HW C own) Qq rest)) :
    QK C ⟨sl, own⟩ (wpQuiet C.P ops (HW C own) Qq (⟨some d, op, ty, pos, aft, g⟩ :: rest)) := by
  intro a hs
  refine wpQuiet_step fun K hK => ?_
  rw [if_pos (wanted_of_GrdF hs hg)]
  refine ⟨v, fun w hw => ?_, hK _ (h _ (hs.put hd v))⟩
  unfold Oper.quietAt
  rw [hy a w (hs.sim hw)]
  exact ⟨rfl, rfl⟩

theorem QK.pass {j : Nat} {want : Bool} {gd : Nat} {gv : Value} (h1 : (ops[j]?).bind (·.dst) = some gd) (h2 : get sl gd = some gv) (h3 : NotB gv want) (hd : Nat.blt d C.N = true) (h : QK C ⟨(d, undef) :: sl, own⟩ (wpQuiet C.P ops (HW C own) Qq rest)) :
    QK C ⟨sl, own⟩ (wpQuiet C.P ops (HW C own) Qq (⟨some d, op, ty, pos, aft, some (j, want)⟩ :: rest)) := by
  intro a hs
  refine wpQuiet_step fun K hK => ?_
  rw [unwanted_of hs h1 h2 h3]
  simp only [Bool.false_eq_true, if_false]
  exact hK _ (h _ (hs.put hd undef))

/-- a call that hands back one value and leaves what is owned -/
theorem QK.call (v : Value) {f : FuncId} {xs : List Operand} {tys : Array TypeId} {vs : List Value} {φ : Value → List Asn → Prop} (hf : CallOk C.P f) (hx : opvs ⟨sl, own⟩ xs = some vs) (hspec : ∀ w, HW C own w → CallS C.P f vs w φ) (hv : ∀ u own', φ u own' → u = v) (hg : Grd ops sl g) (hd : Nat.blt d C.N = true)
    (h : QK C ⟨(d, v) :: sl, own⟩ (wpQuiet C.P ops (HW C own) Qq rest)) : QK C ⟨sl, own⟩ (wpQuiet C.P ops (HW C own) Qq (⟨some d, .call ⟨.value (.func f), xs.toArray, tys⟩, ty, pos, aft, g⟩ :: rest)) := by
  intro a hs
  refine wpQuiet_step fun K hK => ?_
  rw [if_pos (wanted_of_GrdF hs hg)]
  refine ⟨v, fun w hw => ?_, hK _ (h _ (hs.put hd v))⟩
  unfold Oper.quietAt
  rw [run_call (hs.sim hw) hf hx]
  refine ⟨rfl, (hspec w hw).mono ?_⟩
  rintro e w' ⟨u, own', hφ, rfl, hx', Fs, hh, hin⟩
  rw [hv u own' hφ]
  exact ⟨rfl, (hw.push hx' hh (fun j b hb => (hin j b hb).resolve_left id)).take⟩

theorem QK.splitB {g : Nat} {b : Bool} {K : Act → Prop} (hx : get sl g = some (.bool b)) (h1 : b = true → QK C ⟨sl, own⟩ K) (h2 : b = false → QK C ⟨sl, own⟩ K) : QK C ⟨sl, own⟩ K := by
  cases b
  · exact h2 rfl
  · exact h1 rfl

theorem AK.quiet {Q : Exit → Act → World → Prop} {id : Nat} {l : List Oper} (hm : C.P.follows .mixedOrders = true) (hB : Region.lexB .any l.toArray = true)
    (h : QK C ⟨sl, own⟩ (wpQuiet C.P l.toArray (HW C own) (fun a' => ∀ w', HW C own w' → Q .normal a' w') l)) : AK C ⟨sl, own⟩ ((Code.region id l.toArray true).wp C.P Q) := by
  intro a w hs
  refine wp_region_quiet (C := HW C own) hm hB ?_ (by simpa using h a hs.simF)
  have := hs.world.push (w' := { w with drawn := w.drawn + 1 }) (own2 := []) ⟨rfl, rfl, rfl, Nat.le_refl _, fun _ _ _ => rfl⟩ (HeapAt.nil _) (fun _ _ h => h.elim)
  simpa using this

/-- behind the quiet walk: on with the usual one -/
theorem QK.fin {K : Act → World → Prop} (h : AK C ⟨sl, own⟩ K) : QK C ⟨sl, own⟩ (fun a' => ∀ w', HW C own w' → K a' w') := fun a hs w' hw => h a w' (hs.sim hw)
end quiet

theorem AK.splitB {C : Cx} {sl : List (Nat × Value)} {own : List Asn} {g : Nat} {b : Bool} {K : Act → World → Prop} (hx : get sl g = some (.bool b)) (h1 : b = true → AK C ⟨sl, own⟩ K) (h2 : b = false → AK C ⟨sl, own⟩ K) : AK C ⟨sl, own⟩ K := by
  cases b
  · exact h2 rfl
  · exact h1 rfl

/-- the still walk: one world -/
def SK (C : Cx) (st : St) (K : Act → Prop) : Prop := ∀ a, SimF C st.sl a → K a

section still
variable {C : Cx} {sl : List (Nat × Value)} {own : List Asn} {ops : Array Oper} {Qq : Act → Prop} {d : Nat} {op : Op} {ty : TypeId} {pos : String} {aft : Array Edge} {g : Option (Nat × Bool)} {rest : List Oper} {w : World}

theorem SK.nil (h : SK C ⟨sl, own⟩ Qq) : SK C ⟨sl, own⟩ (wpStill C.P ops w Qq []) := fun a hs => wpStill_nil (h a hs)

theorem SK.val (hw : HW C own w) (v : Value) (hy : Yl C ⟨sl, own⟩ ⟨some d, op, ty, pos, aft, g⟩ v) (hg : Grd ops sl g) (hd : Nat.blt d C.N = true) (h : SK C ⟨(d, v) :: sl, own⟩ (wpStill C.P ops w Qq rest)) :
    SK C ⟨sl, own⟩ (wpStill C.P ops w Qq (⟨some d, op, ty, pos, aft, g⟩ :: rest)) := by
  intro a hs
  refine wpStill_step fun K hK => ?_
  rw [if_pos (wanted_of_GrdF hs hg)]
  unfold Oper.still
  rw [hy a w (hs.sim hw)]
  exact ⟨rfl, hK _ (h _ (hs.put hd v))⟩

theorem SK.pass {j : Nat} {want : Bool} {gd : Nat} {gv : Value} (h1 : (ops[j]?).bind (·.dst) = some gd) (h2 : get sl gd = some gv) (h3 : NotB gv want) (hd : Nat.blt d C.N = true) (h : SK C ⟨(d, undef) :: sl, own⟩ (wpStill C.P ops w Qq rest)) :
    SK C ⟨sl, own⟩ (wpStill C.P ops w Qq (⟨some d, op, ty, pos, aft, some (j, want)⟩ :: rest)) := by
  intro a hs
  refine wpStill_step fun K hK => ?_
  rw [unwanted_of hs h1 h2 h3]
  simp only [Bool.false_eq_true, if_false]
  exact hK _ (h _ (hs.put hd undef))

theorem SK.splitB {g : Nat} {b : Bool} {K : Act → Prop} (hx : get sl g = some (.bool b)) (h1 : b = true → SK C ⟨sl, own⟩ K) (h2 : b = false → SK C ⟨sl, own⟩ K) : SK C ⟨sl, own⟩ K := by
  cases b
  · exact h2 rfl
  · exact h1 rfl

/-- n still operations, then the rest in order -/
theorem AK.stillTail {Q : Exit → Act → World → Prop} {id : Nat} {l : List Oper} (n : Nat) (hm : C.P.follows .mixedOrders = true) (hB : Region.lexTailB .any l.toArray n = true)
    (h : ∀ w, HW C own w → SK C ⟨sl, own⟩ (wpStill C.P l.toArray w (fun a' => wpList C.P l.toArray Q (l.drop n) a' w) (l.take n))) : AK C ⟨sl, own⟩ ((Code.region id l.toArray true).wp C.P Q) := by
  intro a w hs
  refine wp_region_still_tail n hm hB (h _ ?_ a hs.simF)
  have := hs.world.push (w' := { w with drawn := w.drawn + 1 }) (own2 := []) ⟨rfl, rfl, rfl, Nat.le_refl _, fun _ _ _ => rfl⟩ (HeapAt.nil _) (fun _ _ h => h.elim)
  simpa using this

theorem SK.fin {K : Act → World → Prop} (hw : HW C own w) (h : AK C ⟨sl, own⟩ K) : SK C ⟨sl, own⟩ (fun a' => K a' w) := fun a hs => h a w (hs.sim hw)
end still

section picks
variable {C : Cx} {sl : List (Nat × Value)} {own : List Asn} {dst : Option Nat} {ty : TypeId} {pos : String} {aft : Array Edge} {g : Option (Nat × Bool)}
theorem Yl.pickT {c x y : Operand} {b : Bool} {u : Value} (hc : opv ⟨sl, own⟩ c = some (.bool b)) (hb : b = true) (hx : opv ⟨sl, own⟩ x = some u) : Yl C ⟨sl, own⟩ ⟨dst, .pick c x y, ty, pos, aft, g⟩ u :=
  Yl.pick hc (by subst hb; exact hx)
theorem Yl.pickF {c x y : Operand} {b : Bool} {u : Value} (hc : opv ⟨sl, own⟩ c = some (.bool b)) (hb : b = false) (hx : opv ⟨sl, own⟩ y = some u) : Yl C ⟨sl, own⟩ ⟨dst, .pick c x y, ty, pos, aft, g⟩ u :=
  Yl.pick hc (by subst hb; exact hx)
end picks

/-- a slice of integers that reads as xs -/
def RdI (w : World) (v : Value) (xs : List Int) : Prop := Rd (fun _ => ¬ False) w v 1 xs.length (xs.map (Value.int .i64))
def RdI8 (w : World) (v : Value) (xs : List Bool) : Prop := Rd (fun _ => ¬ False) w v 1 xs.length (xs.map Value.bool)
theorem AK.condD {C : Cx} {st : St} {c : Operand} {x y : Code} {Q : Exit → Act → World → Prop} {p : Prop} [Decidable p] (hc : opv st c = some (.bool (decide p))) (hx : p → AK C st (x.wp C.P Q)) (hy : ¬ p → AK C st (y.wp C.P Q)) :
    AK C st ((Code.cond c x y).wp C.P Q) := AK.cond hc (fun h => hx (of_decide_eq_true h)) (fun h => hy (of_decide_eq_false h))
theorem AK.condN {C : Cx} {st : St} {c : Operand} {x y : Code} {Q : Exit → Act → World → Prop} {p : Prop} [Decidable p] (hc : opv st c = some (.bool (!decide p))) (hx : ¬ p → AK C st (x.wp C.P Q)) (hy : p → AK C st (y.wp C.P Q)) :
    AK C st ((Code.cond c x y).wp C.P Q) := AK.cond hc (fun h => hx (of_decide_eq_false (by simpa using h))) (fun h => hy (of_decide_eq_true (by simpa using h)))
theorem AK.condB {C : Cx} {st : St} {c : Operand} {x y : Code} {Q : Exit → Act → World → Prop} {b : Bool} (hc : opv st c = some (.bool (!b))) (hx : b = false → AK C st (x.wp C.P Q)) (hy : b = true → AK C st (y.wp C.P Q)) :
    AK C st ((Code.cond c x y).wp C.P Q) := AK.cond hc (fun h => hx (by simpa using h)) (fun h => hy (by simpa using h))
theorem SlLe.nil {sl : List (Nat × Value)} : SlLe sl [] := trivial
theorem SlLe.cons {sl l : List (Nat × Value)} {i : Nat} {v : Value} (h : Sx.get sl i = some v) (h' : SlLe sl l) : SlLe sl ((i, v) :: l) := ⟨h, h'⟩
theorem slI {sl : List (Nat × Value)} {i : Nat} {k : IntKind} {a b : Int} (h : Sx.get sl i = some (.int k a)) (e : a = b) : Sx.get sl i = some (.int k b) := by rw [← e]; exact h
theorem slB {sl : List (Nat × Value)} {i : Nat} {a b : Bool} (h : Sx.get sl i = some (.bool a)) (e : a = b) : Sx.get sl i = some (.bool b) := by rw [← e]; exact h
theorem take_snocD {α : Type} (d : α) (xs : List α) (k : Nat) (h : k < xs.length) : xs.take (k + 1) = xs.take k ++ [xs.getD k d] := by
  rw [List.getD_eq_getElem?_getD, List.getElem?_eq_getElem h, Option.getD_some, List.take_append_getElem]
theorem AK.condNe {C : Cx} {st : St} {c : Operand} {x y : Code} {Q : Exit → Act → World → Prop} {p : Prop} [Decidable p] (hc : opv st c = some (.bool (decide (¬ p)))) (hx : ¬ p → AK C st (x.wp C.P Q)) (hy : p → AK C st (y.wp C.P Q)) :
    AK C st ((Code.cond c x y).wp C.P Q) := AK.condD hc hx (fun h => hy (Decidable.not_not.1 h))

theorem AK.store1e {C : Cx} {sl : List (Nat × Value)} {own : List Asn} {ops : Array Oper} {Q : Exit → Act → World → Prop} {ty : TypeId} {pos : String} {aft : Array Edge} {g : Option (Nat × Bool)} {rest : List Oper} (i : Nat) {t E : TypeId} {x y : Operand} {v u : Value} {n j : Nat} {cs cs' : List Value} (hi : own[i]? = some (row v E 1 n cs)) (hs1 : (C.P.info? t).map (·.size) = some 1) (hx : opv ⟨sl, own⟩ x = some (.pointer (some ((slA v).add (j * 1))))) (hy : opv ⟨sl, own⟩ y = some u)
    (hu : u.cells = #[u]) (h1 : u.oneCell' = true) (hj : j < n) (hcs : cs.set j u = cs') (hg : Grd ops sl g) (h : AK C ⟨sl, own.set i (row v E 1 n cs')⟩ (wpList C.P ops Q rest)) :
    AK C ⟨sl, own⟩ (wpList C.P ops Q (⟨none, .store t x y, ty, pos, aft, g⟩ :: rest)) := AK.store1 i hi hs1 hx hy hu h1 hj hg (by rw [hcs]; exact h)
/-- filling from the left -/
theorem fill_set {α : Type} (f : α → Value) (A : List α) (z c : α) (n k : Nat) (hA : A.length = k) (hk : k < n) : ((A ++ List.replicate (n - k) z).map f).set k (f c) = (((A ++ [c]) ++ List.replicate (n - (k + 1)) z)).map f := by
  rw [← List.map_set, List.set_append_right _ _ (by omega), hA, Nat.sub_self]
  rw [show n - k = (n - (k + 1)) + 1 from by omega, List.replicate_succ]
  simp
set_option linter.unusedVariables false
theorem RdI.at {C : Cx} {own : List Asn} {v : Value} {xs : List Int} {w : World} (h : RdI C.W0 v xs) (hw : HW C own w) (hS : ∀ b, ¬ C.S b := by exact fun _ => id) : RdI w v xs :=
  Rd.mono h fun b _ hlt => ⟨id, hw.frame.block b hlt (hS b)⟩
theorem RdI8.at {C : Cx} {own : List Asn} {v : Value} {xs : List Bool} {w : World} (h : RdI8 C.W0 v xs) (hw : HW C own w) (hS : ∀ b, ¬ C.S b := by exact fun _ => id) : RdI8 w v xs :=
  Rd.mono h fun b _ hlt => ⟨id, hw.frame.block b hlt (hS b)⟩
theorem RdI.own {C : Cx} {own : List Asn} {v : Value} {E : TypeId} {xs : List Int} {w : World} (i : Nat) (hw : HW C own w) (hi : own[i]? = some (row v E 1 xs.length (xs.map (Value.int .i64)))) : RdI w v xs := by
  have := RdS.own (C := C) i hi w hw
  exact this.mono fun b _ _ => ⟨id, rfl⟩

theorem AK.knownT {C : Cx} {sl : List (Nat × Value)} {own : List Asn} {g : Nat} {b : Bool} {K : Act → World → Prop} (hx : get sl g = some (.bool b)) (hb : b = true) (h1 : b = true → AK C ⟨sl, own⟩ K) : AK C ⟨sl, own⟩ K := h1 hb
theorem AK.knownF {C : Cx} {sl : List (Nat × Value)} {own : List Asn} {g : Nat} {b : Bool} {K : Act → World → Prop} (hx : get sl g = some (.bool b)) (hb : b = false) (h1 : b = false → AK C ⟨sl, own⟩ K) : AK C ⟨sl, own⟩ K := h1 hb
theorem QK.knownT {C : Cx} {sl : List (Nat × Value)} {own : List Asn} {g : Nat} {b : Bool} {K : Act → Prop} (hx : get sl g = some (.bool b)) (hb : b = true) (h1 : b = true → QK C ⟨sl, own⟩ K) : QK C ⟨sl, own⟩ K := h1 hb
theorem QK.knownF {C : Cx} {sl : List (Nat × Value)} {own : List Asn} {g : Nat} {b : Bool} {K : Act → Prop} (hx : get sl g = some (.bool b)) (hb : b = false) (h1 : b = false → QK C ⟨sl, own⟩ K) : QK C ⟨sl, own⟩ K := h1 hb


end Go.Sx
