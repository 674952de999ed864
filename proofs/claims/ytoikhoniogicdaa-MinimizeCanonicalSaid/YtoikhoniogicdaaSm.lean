import Derived.Test.YtoikhoniogicdaaSo
set_option linter.unusedVariables false
set_option linter.unusedSimpArgs false
namespace Go.Sx
open Go.RowKit
theorem SlLe.app {sl a b : List (Nat × Value)} (h1 : SlLe sl a) (h2 : SlLe sl b) : SlLe sl (a ++ b) := h1.append h2
/-- a loop; what stays in the slots is given as a list -/
theorem AK.loopK {C : Cx} {sl : List (Nat × Value)} {own : List Asn} {c : Code} {Q : Exit → Act → World → Prop} {X : Type} (kv : List (Nat × Value)) (ch : X → List (Nat × Value)) (ow : X → List Asn) (good : X → Prop) (μ : X → Nat) (x0 : X) (hk : SlLe sl kv) (h0 : good x0) (h1 : SlLe sl (ch x0)) (h2 : ∀ w, HW C own w → HW C (ow x0) w)
    (round : ∀ x, good x → ∀ K : Act → World → Prop, (∀ sl' own' x', good x' → μ x' < μ x → SlLe sl' (ch x' ++ kv) → (∀ w, HW C own' w → HW C (ow x') w) → AK C ⟨sl', own'⟩ K) → AK C ⟨ch x ++ kv, ow x⟩ (c.wp C.P (Exit.then K Q))) :
    AK C ⟨sl, own⟩ ((Code.loop c).wp C.P Q) := by
  intro a w hs
  refine wp_loop_ghost (fun n a w => ∃ x, good x ∧ μ x = n ∧ Sim C ⟨ch x ++ kv, ow x⟩ a w) (μ x0) ⟨x0, h0, rfl, ⟨hs.size, hs.defers, fun i v hv => hs.slot i v ((h1.app hk).get i v hv), h2 w hs.world⟩⟩ ?_
  rintro n a w ⟨x, hg, rfl, hs⟩
  exact round x hg _ (fun sl' own' x' hg' hlt hsl how a w hs' => ⟨μ x', hlt, x', hg', rfl, ⟨hs'.size, hs'.defers, fun i v hv => hs'.slot i v (hsl.get i v hv), how w hs'.world⟩⟩) a w hs
/-- several ways meet behind a region -/
theorem AK.joinK {C : Cx} {sl : List (Nat × Value)} {own : List Asn} {Q : Exit → Act → World → Prop} {id : Nat} {l : Array Oper} {dr : Bool} {X : Type} (kv : List (Nat × Value)) (ch : X → List (Nat × Value)) (ow : X → List Asn) (good : X → Prop) (hk : SlLe sl kv)
    (main : ∀ Q' : Exit → Act → World → Prop, (∀ sl' own' x, good x → SlLe sl' (ch x ++ kv) → (∀ w, HW C own' w → HW C (ow x) w) → AK C ⟨sl', own'⟩ (Q' .normal)) → AK C ⟨sl, own⟩ ((Code.region id l dr).wp C.P Q'))
    (h : ∀ x, good x → AK C ⟨ch x ++ kv, ow x⟩ (Q .normal)) : AK C ⟨sl, own⟩ ((Code.region id l dr).wp C.P Q) :=
  main Q (fun sl' own' x hg h1 h2 => AK.weakenS h1 h2 (h x hg))
section
variable {α β : Type} [DecidableEq α] {C : Cx} {sl : List (Nat × Value)} {own : List Asn} {ops : Array Oper} {Q : Exit → Act → World → Prop} {ty : TypeId} {pos : String} {aft : Array Edge} {g : Option (Nat × Bool)} {rest : List Oper}
theorem AK.mapIns (i : Nat) {t kt et : TypeId} {x y z : Operand} {b : Nat} {fk : α → Value} {fv : β → Value} {m : List (α × β)} {a : α} {v : β} (hi : own[i]? = some (mapA b (mkv fk fv m))) (ht : C.P.underlying t = some (.map kt et)) (K : KeyL C.P kt fk) (hx : opv ⟨sl, own⟩ x = some (.map (some b))) (hy : opv ⟨sl, own⟩ y = some (fk a)) (hz : opv ⟨sl, own⟩ z = some (fv v)) (hg : Grd ops sl g)
    (h : AK C ⟨sl, own.set i (mapA b (mkv fk fv (mset m a v)))⟩ (wpList C.P ops Q rest)) : AK C ⟨sl, own⟩ (wpList C.P ops Q (⟨none, .insert t x y z, ty, pos, aft, g⟩ :: rest)) := by
  intro ac w hs
  refine wpList_step fun K' hK => ?_
  rw [if_pos (wanted_of_Grd hs hg)]
  obtain ⟨hf, Fs, hh, hal⟩ := hs.world
  have hA := hh.at_ i _ hi
  obtain ⟨⟨es, clock, hb, hes⟩, hF⟩ := hA
  obtain ⟨h1, h2⟩ := mkv_split hes
  have hfind := K.find a es.toList (m.map (·.1)) w h1
  have hget : (getObj b).run C.P w = .ok (.map es clock) w := by simp [getObj, Sem.run, hb]
  have hset : ∀ o, (setObj b o).run C.P w = .ok () { w with heap := w.heap.setIfInBounds b o } := fun o => by simp [setObj, Sem.run, hb]
  have hblt : b < w.heap.size := (Array.getElem?_eq_some_iff.1 hb).1
  have key : ∃ es' clock', (Instr.mapUpdate t (.map (some b)) (fk a) (fv v)).run C.P w = .ok () { w with heap := w.heap.setIfInBounds b (.map es' clock') } ∧ es'.toList.map (fun e => (e.key, e.val)) = mkv fk fv (mset m a v) := by
    simp only [Instr.mapUpdate, Sem.run_bind, run_underlying ht, Result.andThen_ok, hget, K.check, hfind]
    cases hi' : fidx a (m.map (·.1)) with
    | none =>
      refine ⟨es.push { key := fk a, val := fv v, born := clock }, clock + 1, ?_, ?_⟩
      · simp [hset]
      · rw [mset_none m a v ((fidx_none m a).1 hi')]
        simp [mkv] at hes ⊢
        exact hes
    | some j =>
      obtain ⟨e1, e2, e3⟩ := fidx_set m a v j hi'
      have hlen : es.size = m.length := by have := congrArg List.length hes; simpa [mkv] using this
      have hj : j < es.size := by omega
      have hkey : es[j].key = fk a := by
        have := congrArg (fun l => l[j]?) h1
        simp [List.getElem?_map, hj, e2] at this
        have e3' : m[j].1 = a := by simpa [e2] using e3
        rw [this, e3']
      refine ⟨es.modify j fun e => { e with key := fk a, val := fv v }, clock, ?_, ?_⟩
      · simp [hj, Instr.keyThatStays, hkey, K.same, hset]
      · rw [e1]
        apply List.ext_getElem?
        intro k
        have hk := congrArg (fun l => l[k]?) hes
        simp only [mkv, List.getElem?_map, Array.getElem?_toList, Array.getElem?_modify, List.getElem?_set] at hk ⊢
        by_cases hkj : j = k
        · subst hkj
          simp [hj, e2]
        · simp only [hkj, if_false]; exact hk
  obtain ⟨es', clock', hrun, hes'⟩ := key
  have hrun' : (execOp ac.eval ⟨none, .insert t x y z, ty, pos, aft, g⟩).run C.P w = .ok .skip { w with heap := w.heap.setIfInBounds b (.map es' clock') } := by
    simp only [execOp, opv_eval hs hx, opv_eval hs hy, opv_eval hs hz, Sem.run_bind, hrun, Result.andThen_ok, Sem.run_pure]
  simp only [Oper.wp, hrun', Oper.upon]
  refine hK _ _ (h _ _ ?_)
  have hlt : i < own.length := (List.getElem?_eq_some_iff.1 hi).1
  have hup := HW.update (w' := { w with heap := w.heap.setIfInBounds b (.map es' clock') }) (own2 := []) (A' := mapA b (mkv fk fv (mset m a v))) hf hh hal hlt
    ⟨rfl, rfl, rfl, by simp, fun k _ hk => setObj_old (fun e => hk (by rw [e]; exact (hF b).2 rfl))⟩
    (HeapAt.one (F := fun c => c = b) ⟨⟨es', clock', by simp [hblt], hes'⟩, fun _ => Iff.rfl⟩) (fun k c hc => .inl ((hF c).2 hc.2))
  rw [List.append_nil] at hup
  exact hs.put hup (d := none) (fun i hi => by cases hi) undef
theorem Yl.shr {dst : Option Nat} {x y : Operand} {t t' : TypeId} {k : IntKind} {m n : Int} (hx : opv ⟨sl, own⟩ x = some (.int .i64 m)) (hy : opv ⟨sl, own⟩ y = some (.int k n)) (hm : 0 ≤ m) (hn : 0 ≤ n ∧ n ≤ 62) :
    Yl C ⟨sl, own⟩ ⟨dst, .binOp .shr t x y t', ty, pos, aft, g⟩ (.int .i64 (m / 2 ^ n.toNat)) :=
  fun a w hs => by
    have h1 : Min.min n.toNat 64 = n.toNat := by omega
    have h2 : ¬ n < 0 := by omega
    have h3 : m.fdiv (2 ^ n.toNat) = m / 2 ^ n.toNat := Int.fdiv_eq_ediv_of_nonneg m (Int.pow_nonneg (by decide))
    simp only [execOp, opv_eval hs hx, opv_eval hs hy]
    simp [go_sem, binOp, Op.shift, IntKind.bits, h1, h2, h3]
theorem Yl.and1 {dst : Option Nat} {x y : Operand} {t t' : TypeId} {m : Int} (hx : opv ⟨sl, own⟩ x = some (.int .i64 m)) (hy : opv ⟨sl, own⟩ y = some (.int .i64 1)) (hm : 0 ≤ m ∧ m ≤ 9223372036854775807) :
    Yl C ⟨sl, own⟩ ⟨dst, .binOp .and t x y t', ty, pos, aft, g⟩ (.int .i64 (m % 2)) :=
  fun a w hs => by
    obtain ⟨k, rfl⟩ := Int.eq_ofNat_of_zero_le hm.1
    have h1 : (BitVec.ofNat 64 k &&& 1#64).toNat = k % 2 := by
      rw [BitVec.toNat_and]
      have e1 : (BitVec.ofNat 64 k).toNat = k := by
        rw [BitVec.toNat_ofNat]; omega
      have e2 : (1#64).toNat = 1 := by decide
      rw [e1, e2, Nat.and_one_is_mod]
    have h2 : IntKind.i64.wrap ((k % 2 : Nat) : Int) = ((k : Int) % 2) := by rw [IntKind.wrap_i64]; omega
    simp only [execOp, opv_eval hs hx, opv_eval hs hy]
    simp [go_sem, Op.intBits, IntKind.bits]
    exact (congrArg (fun (q : Nat) => IntKind.i64.wrap (q : Int)) h1).trans h2
end
/-- fewer slots -/
theorem AK.slots {C : Cx} {sl : List (Nat × Value)} {own : List Asn} {K : Act → World → Prop} (kv : List (Nat × Value)) (hk : SlLe sl kv) (h : AK C ⟨kv, own⟩ K) : AK C ⟨sl, own⟩ K := AK.weakenS hk (fun _ h => h) h
end Go.Sx
