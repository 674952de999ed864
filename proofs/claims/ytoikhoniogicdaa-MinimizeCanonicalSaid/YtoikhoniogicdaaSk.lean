import Derived.Test.YtoikhoniogicdaaSm
import Derived.Test.YtoikhoniogicdaaSn
import Derived.Laws.IdiomStrings
set_option linter.unusedVariables false
set_option linter.unusedSimpArgs false
namespace Go.Sx
open Go.RowKit
variable {C : Cx} {sl : List (Nat × Value)} {own : List Asn} {ops : Array Oper} {Q : Exit → Act → World → Prop} {ty : TypeId} {pos : String} {aft : Array Edge} {g : Option (Nat × Bool)} {rest : List Oper}
/-! ### bytes out of a string: a row whose frozen place lies behind it -/
def rowZ (v : Value) (E : TypeId) (n : Nat) (cs : List Value) : Asn where
  holds w F := (∃ gb cap cur fz, v = .slice (some ⟨gb, 0, none⟩) n cap ∧ w.heap[gb]? = some (.cells cur E fz) ∧ n ≤ fz.1 ∧ n ≤ cur.size ∧ n ≤ maxLen ∧ cs.length = n ∧ cur.toList.take n = cs) ∧ ∀ b, F b ↔ v.ownBlock = some b
  loc := by
    rintro w w' F ⟨⟨gb, cap, cur, fz, hv, hh, r⟩, hF⟩ hb
    exact ⟨⟨gb, cap, cur, fz, hv, by rw [hb gb ((hF gb).2 (by rw [hv]; rfl))]; exact hh, r⟩, hF⟩
  lt := by
    rintro w F ⟨⟨gb, cap, cur, fz, hv, hh, r⟩, hF⟩ b hb
    have := (hF b).1 hb
    rw [hv] at this
    cases this
    exact (Array.getElem?_eq_some_iff.1 hh).1
theorem rowZ_cell {w : World} {gb : Nat} {cur : Array Value} {E : TypeId} {fz : Nat × Nat} (hh : w.heap[gb]? = some (.cells cur E fz)) (j : Nat) : w.cell? ⟨gb, j, none⟩ = cur[j]? := by
  simp [World.cell?, hh]
theorem rowZ_rd {w : World} {F : Nat → Prop} {v : Value} {E : TypeId} {n : Nat} {cs : List Value} (h : (rowZ v E n cs).holds w F) : Rd F w v 1 n cs := by
  obtain ⟨⟨gb, cap, cur, fz, rfl, hh, h1, h2, h3, h4, h5⟩, hF⟩ := h
  refine ⟨_, cap, rfl, h3, by rw [h4, Nat.mul_one], fun _ _ => rfl, fun a j u ha hj => ?_⟩
  cases ha
  refine ⟨(hF gb).2 rfl, ?_⟩
  have hj' : j < n := by rw [← h4]; exact (List.getElem?_eq_some_iff.1 hj).1
  rw [Addr.add_lit, rowZ_cell hh]
  rw [← h5, List.getElem?_take, if_pos hj'] at hj
  simpa using hj
theorem RdS.ownZ {v : Value} {E : TypeId} {n : Nat} {cs : List Value} (i : Nat) (hi : own[i]? = some (rowZ v E n cs)) : RdS C own v 1 n cs := fun w hw => by
  obtain ⟨_, Fs, hh, _⟩ := hw
  exact (rowZ_rd (hh.at_ i _ hi)).mono fun b _ _ => ⟨trivial, rfl⟩
theorem AK.toBytes {d : Nat} {s t E : TypeId} {x : Operand} {l : List UInt8} (hs : C.P.underlying s = some .string) (ht : C.P.underlying t = some (.slice E)) (he : C.P.underlying E = some (.int .u8)) (hx : opv ⟨sl, own⟩ x = some (sv l)) (hl : l.length ≤ 9223372036854775807) (hg : Grd ops sl g) (hd : Nat.blt d C.N = true)
    (h : ∀ v, AK C ⟨(d, v) :: sl, own ++ [rowZ v E l.length (l.map byv)]⟩ (wpList C.P ops Q rest)) :
    AK C ⟨sl, own⟩ (wpList C.P ops Q (⟨some d, .convert s t x, ty, pos, aft, g⟩ :: rest)) := by
  intro a w hs'
  refine wpList_step fun K hK => ?_
  rw [if_pos (wanted_of_Grd hs' hg)]
  have hr := run_bytes_of_string (P := C.P) w s t E ⟨l.toArray⟩ hs ht he
  generalize grownCap w (⟨l.toArray⟩ : ByteArray).size 0 E = cap at hr
  have hrun : (execOp a.eval ⟨some d, .convert s t x, ty, pos, aft, g⟩).run C.P w = .ok (.value (.slice (some ⟨w.heap.size, 0, none⟩) (⟨l.toArray⟩ : ByteArray).size cap)) (w.drew.alloc (.cells (bytesRow ⟨l.toArray⟩ cap) E ((bytesRow ⟨l.toArray⟩ cap).size, (bytesRow ⟨l.toArray⟩ cap).size + 1))) := by
    simp only [execOp, opv_eval hs' hx, sv, Sem.run_bind, hr, Result.andThen_ok, Sem.run_pure]
  simp only [Oper.wp, hrun, Oper.upon]
  have hsz : (⟨l.toArray⟩ : ByteArray).size = l.length := by simp [ByteArray.size]
  have hbs : l.length ≤ (bytesRow ⟨l.toArray⟩ cap).size := by simp [bytesRow]
  have htk : (bytesRow ⟨l.toArray⟩ cap).toList.take l.length = l.map byv := by
    simp only [bytesRow, Array.toList_append, Array.toList_map]
    rw [List.take_left' (by simp)]
    rfl
  rw [hsz] at *
  refine hK _ _ (h (.slice (some ⟨w.heap.size, 0, none⟩) l.length cap) _ _ ?_)
  have hZ : (rowZ (.slice (some ⟨w.heap.size, 0, none⟩) l.length cap) E l.length (l.map byv)).holds (w.drew.alloc (.cells (bytesRow ⟨l.toArray⟩ cap) E ((bytesRow ⟨l.toArray⟩ cap).size, (bytesRow ⟨l.toArray⟩ cap).size + 1))) (fun b => (Value.slice (some ⟨w.heap.size, 0, none⟩) l.length cap).ownBlock = some b) :=
    ⟨⟨w.heap.size, cap, _, ((bytesRow ⟨l.toArray⟩ cap).size, (bytesRow ⟨l.toArray⟩ cap).size + 1), rfl, by show (w.heap.push _)[w.heap.size]? = _; simp, hbs, hbs, by simpa [maxLen] using hl, by simp, htk⟩, fun _ => Iff.rfl⟩
  have hfr : FrameX (fun _ => False) w (w.drew.alloc (.cells (bytesRow ⟨l.toArray⟩ cap) E ((bytesRow ⟨l.toArray⟩ cap).size, (bytesRow ⟨l.toArray⟩ cap).size + 1))) :=
    ⟨rfl, rfl, rfl, by show w.heap.size ≤ (w.heap.push _).size; simp, fun k hk _ => by show (w.heap.push _)[k]? = _; simp [Array.getElem?_push, Nat.ne_of_lt hk]⟩
  refine hs'.put (hs'.world.push hfr (HeapAt.one hZ) (fun j b hb => ?_)) (d := some d) (fun i hi => by cases hi; simpa [Nat.blt_eq] using hd) _
  obtain ⟨_, hb⟩ := hb
  simp [Value.ownBlock] at hb
  omega
theorem rowZ_grown {w : World} {v : Value} {E : TypeId} {n : Nat} {cs : List Value} {F : Nat → Prop} (h : (rowZ v E n cs).holds w F) {j : Nat} (hj : j < n) (u : Value) :
    (rowZ v E n (cs.set j u)).holds (w.setCell ((slA v).add j) u) F ∧ FrameX F w (w.setCell ((slA v).add j) u) ∧ (w.cell? ((slA v).add j)).isSome ∧ w.frozen? ((slA v).add j) = false := by
  obtain ⟨⟨gb, cap, cur, fz, rfl, hh, h1, h2, h3, h4, h5⟩, hF⟩ := h
  have ha : ((slA (.slice (some ⟨gb, 0, none⟩) n cap)).add j) = ⟨gb, j, none⟩ := by simp [slA, Addr.add_lit]
  rw [ha]
  refine ⟨⟨⟨gb, cap, cur.setIfInBounds j u, fz, rfl, ?_, h1, by simpa using h2, h3, by simpa using h4, ?_⟩, hF⟩, ⟨rfl, rfl, rfl, by simp, fun k _ hk => heap_setCell_other w ⟨gb, j, none⟩ k u (fun e => hk ((hF k).2 (by simp [Value.ownBlock, e])))⟩, ?_, ?_⟩
  · simp [World.setCell, Array.getElem?_modify, hh]
  · rw [Array.toList_setIfInBounds, ← h5, List.take_set]
  · rw [rowZ_cell hh, Array.getElem?_eq_getElem (by omega)]; rfl
  · simp only [World.frozen?, hh]
    have : ¬ fz.1 ≤ j := by omega
    simp [this]
theorem AK.storeZ (i : Nat) {t E : TypeId} {x y : Operand} {v u : Value} {n j : Nat} {cs cs' : List Value} (hi : own[i]? = some (rowZ v E n cs)) (hs1 : (C.P.info? t).map (·.size) = some 1) (hx : opv ⟨sl, own⟩ x = some (.pointer (some ((slA v).add (j * 1))))) (hy : opv ⟨sl, own⟩ y = some u)
    (hu : u.cells = #[u]) (h1 : u.oneCell' = true) (hj : j < n) (hcs : cs.set j u = cs') (hg : Grd ops sl g) (h : AK C ⟨sl, own.set i (rowZ v E n cs')⟩ (wpList C.P ops Q rest)) :
    AK C ⟨sl, own⟩ (wpList C.P ops Q (⟨none, .store t x y, ty, pos, aft, g⟩ :: rest)) := by
  subst hcs
  intro a w hs
  refine wpList_step fun K hK => ?_
  rw [if_pos (wanted_of_Grd hs hg)]
  obtain ⟨hf, Fs, hh, hal⟩ := hs.world
  have hA := hh.at_ i _ hi
  obtain ⟨e1, e2, e3, e4⟩ := rowZ_grown hA (j := j) hj u
  rw [Nat.mul_one] at hx
  have hst : (store ((slA v).add j) u).run C.P w = .ok () (w.setCell ((slA v).add j) u) := by
    obtain ⟨u0, hu0⟩ := Option.isSome_iff_exists.1 e3
    rw [run_store _ _ _ _ _ h1, hu0, e4]; rfl
  have hadd : ∀ a : Addr, a.add 0 = a := fun a => by simp [Addr.add]
  have hrun : (execOp a.eval ⟨none, .store t x y, ty, pos, aft, g⟩).run C.P w = .ok .skip (w.setCell ((slA v).add j) u) := by
    simp only [execOp, opv_eval hs hx, opv_eval hs hy, Instr.storeAt, Instr.sureAddr, storeVar, Sem.run_bind, Sem.run_pure, Result.andThen_ok, run_sizeOf_of hs1, hu]
    simp [storeCells, hst, hadd]
  simp only [Oper.wp, hrun, Oper.upon]
  refine hK _ _ (h _ _ ?_)
  have hlt : i < own.length := (List.getElem?_eq_some_iff.1 hi).1
  have hup := HW.update (own2 := []) (A' := rowZ v E n (cs.set j u)) hf hh hal hlt e2 (HeapAt.one e1) (fun k b hb => .inl hb.2)
  rw [List.append_nil] at hup
  exact hs.put hup (d := none) (fun i hi => by cases hi) undef
/-! ### a move of what stands in a slot, in a region that draws: ahead, though the breaking operation does not wait for it -/
theorem wpAnyN_firstP {P : Program} {ops : Array Oper} {Q : Exit → Act → World → Prop} {S : World → Prop} {n : Nat} {i : Nat} {oi : Oper} {v : Value} (hi : ops[i]? = some oi) (hsel : ∀ (j : Nat) (o : Oper) cs b, ops[j]? = some o → o.op ≠ .select cs b)
    (hQ : ∀ c a w, Q (.panic c) (a.put oi.dst v) w → Q (.panic c) a w) (hn : i ≠ n) :
    ∀ (fuel : Nat) (listed : Array Bool) (a : Act) (w : World), Closed ops listed →
      (∀ j oj, ops[j]? = some oj → j ≠ i → listed.getD j true = false → (∀ e ∈ oj.after, Region.binds .any e = true → e.on ≠ i) → oi.apart ops oj = true) →
      i ∈ Region.ready .any ops listed → YieldsIf P ops (fun _ => True) oi v a → (listed.getD n false = false → S w) →
      wpAnyN P ops Q S n fuel (listed.setIfInBounds i true) (a.put oi.dst v) w → wpAnyN P ops Q S n (fuel + 1) listed a w := by
  have hset : ∀ l : Array Bool, (l.setIfInBounds i true).getD n false = l.getD n false := fun l => getD_set_ne false hn
  intro fuel
  induction fuel with
  | zero =>
    intro listed a w hc _ hr hy hS H
    refine ⟨fun h => (by rw [h] at hr; cases hr), fun j hj => ?_⟩
    by_cases hji : j = i
    · subst hji; exact hy.wpOp hi trivial ⟨fun e => hS (by rw [hset] at e; exact e), H⟩
    · have := ready_mono hj hji
      rw [H.1] at this
      cases this
  | succ fuel ih =>
    intro listed a w hc hfree hr hy hS H
    refine ⟨fun h => (by rw [h] at hr; cases hr), fun j hj => ?_⟩
    by_cases hji : j = i
    · subst hji; exact hy.wpOp hi trivial ⟨fun e => hS (by rw [hset] at e; exact e), H⟩
    · have h1 := H.2 j (ready_mono hj hji)
      obtain ⟨hjun, oj, hoj, hall⟩ := mem_ready.1 hj
      have hnot : ∀ e ∈ oj.after, Region.binds .any e = true → e.on ≠ i := fun e he hb heq => by
        have h1 := hall e he hb
        have h0 := (mem_ready.1 hr).1
        rw [heq] at h1
        rcases Nat.lt_or_ge i listed.size with h' | h'
        · simp [h'] at h0 h1; rw [h0] at h1; cases h1
        · simp [Array.getElem?_eq_none h'] at h1
      have h2 := wpOp_putIf hoj (hfree j oj hoj hji hjun hnot) (fun cs b => hsel i oi cs b hi) (fun cs b => hsel j oj cs b hoj) hQ hy h1
      have hfree' : ∀ k ok, ops[k]? = some ok → k ≠ i → (listed.setIfInBounds j true).getD k true = false →
          (∀ e ∈ ok.after, Region.binds .any e = true → e.on ≠ i) → oi.apart ops ok = true := fun k ok hk hki hun hno => by
        refine hfree k ok hk hki ?_ hno
        by_cases hjk : j = k
        · subst hjk; exact hjun
        · rw [getD_set_ne true hjk] at hun; exact hun
      refine wpOp_mono (fun a' w' h3 => ?_) h2
      have hS' : (listed.setIfInBounds j true).getD n false = false → S w' := fun e => h3.2.1 (by rw [← Array.setIfInBounds_comm _ _ hji, hset]; exact e)
      refine ⟨hS', ih (listed.setIfInBounds j true) a' w' (hc.set hj) hfree' (ready_mono hr (Ne.symm hji)) h3.1 hS' ?_⟩
      rw [Array.setIfInBounds_comm _ _ hji]
      exact h3.2.2
def heldPB (ops : Array Oper) (listed : Array Bool) (n i : Nat) : Bool :=
  Region.noSelect ops && ((Region.ready .any ops listed).contains i && (Region.free .any ops listed i && (closedB ops listed && decide (i ≠ n))))
theorem HeldK.firstP {n : Nat} (i : Nat) {fuel : Nat} {listed listed' : Array Bool} {o : Oper} {d : Nat} (v : Value) (hi : ops[i]? = some o) (hB : heldPB ops listed n i = true) (hl : listed.setIfInBounds i true = listed') (hod : o.dst = some d)
    (hy : PY C sl o v) (hg : Grd ops sl o.guard) (hd : Nat.blt d C.N = true)
    (h : AK C ⟨(d, v) :: sl, own⟩ (HeldK C ops Q own n fuel listed')) : AK C ⟨sl, own⟩ (HeldK C ops Q own n (fuel + 1) listed) := by
  intro a w hs
  simp only [heldPB, Bool.and_eq_true, decide_eq_true_eq] at hB
  obtain ⟨hsel, hr, hf, hc, hn⟩ := hB
  refine wpAnyN_firstP hi (Region.noSelect_spec hsel) (fun c a w hq => absurd hq.1 (by simp)) hn fuel listed a w (closedB_spec hc) (Region.free_spec hi hf) (by simpa using hr) (.inl ⟨wanted_of_GrdF hs.simF hg, fun w' _ => hy a w' hs.simF⟩) (fun _ => hs.world) ?_
  rw [hl, hod]
  exact h _ _ (hs.put (own' := own) hs.world (d := some d) (fun i hi => by cases hi; simpa [Nat.blt_eq] using hd) v)
end Go.Sx
