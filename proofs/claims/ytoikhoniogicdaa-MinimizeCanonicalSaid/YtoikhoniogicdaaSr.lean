import Derived.Test.YtoikhoniogicdaaSq
import Derived.Laws.IdiomCopy
import Derived.Laws.CopyRow
set_option linter.unusedVariables false
namespace Go.Sx
section
variable {C : Cx} {sl : List (Nat × Value)} {own : List Asn} {ops : Array Oper} {Q : Exit → Act → World → Prop} {ty : TypeId} {pos : String} {aft : Array Edge} {g : Option (Nat × Bool)} {rest : List Oper}

/-- copy(dst, src), dst owned and long enough -/
theorem AK.copyS (i : Nat) {d : Nat} {x y : Operand} {t t' E : TypeId} {v v2 : Value} {n m : Nat} {cs cs2 : List Value} (hi : own[i]? = some (row v E 1 n cs)) (ht : SlT C.P t E 1)
    (hx : opv ⟨sl, own⟩ x = some v) (hy : opv ⟨sl, own⟩ y = some v2) (hr : RdS C own v2 1 m cs2) (h1 : one' cs2) (hmn : m ≤ n) (hg : Grd ops sl g) (hd : Nat.blt d C.N = true)
    (h : AK C ⟨(d, .int .i64 (m : Int)) :: sl, own.set i (row v E 1 n (cs2 ++ cs.drop m))⟩ (wpList C.P ops Q rest)) :
    AK C ⟨sl, own⟩ (wpList C.P ops Q (⟨some d, .call ⟨.builtin .copy, #[x, y], #[t, t']⟩, ty, pos, aft, g⟩ :: rest)) := by
  intro a w hs
  refine wpList_step fun K hK => ?_
  rw [if_pos (wanted_of_Grd hs hg)]
  obtain ⟨hf, Fs, hh, hal⟩ := hs.world
  obtain ⟨hown, hF⟩ := hh.at_ i _ hi
  obtain ⟨oa, cap2, rfl, hmm, hl2, hnn, hc2⟩ := hr w hs.world
  have hcsl : cs.length = n := by have := hown.1; omega
  have hm2 : cs2.length = m := by omega
  have key : ∃ w', (Builtin.copy_ #[t, t'] ty #[v, .slice oa m cap2]).run C.P w = .ok (goInt m) w' ∧ w'.ownsRow 0 E 1 v n (cs2 ++ cs.drop m) ∧ FrameX (Fs i) w w' := by
    rcases Nat.eq_zero_or_pos m with h0 | hpos
    · have hcs2 : cs2 = [] := List.eq_nil_of_length_eq_zero (by omega)
      subst hcs2
      subst h0
      have : ∃ ao l c, v = .slice ao l c := by
        rcases hown.2 with ⟨rfl, rfl⟩ | ⟨gb, cp, cur, rfl, _⟩
        · exact ⟨_, _, _, rfl⟩
        · exact ⟨_, _, _, rfl⟩
      obtain ⟨ao, l, c, rfl⟩ := this
      exact ⟨w, run_copy_none w t t' ty E ao oa l c 0 cap2 ht.1 ht.2 (by simp), by simpa using hown, FrameX.refl _ w⟩
    · rcases hown.2 with ⟨rfl, hn0⟩ | ⟨gb, cap, cur, rfl, hb0, hb, hnc, hcm, hcsz, htake⟩
      · omega
      · cases oa with
        | none => have := hnn hpos (by omega); simp at this
        | some ad =>
          have hcz : cur.size = cap := by omega
          have hrun := run_copy_row (P := C.P) w t t' ty E gb 0 n cap ad m cap2 cur E cs2 ht.1 ht.2 hb (by rw [hm2]; exact (Nat.min_eq_left hmn).symm) (fun j u hj => (hc2 ad j u rfl hj).2) (by omega) h1
          rw [hm2] at hrun
          refine ⟨_, hrun, ?_, ⟨rfl, rfl, rfl, by simp, fun k _ hk => setRow_other w gb k _ (fun e => hk (by rw [e]; exact (hF gb).2 rfl))⟩⟩
          have hcl : cur.toList.length = cap := by simpa using hcz
          have hcs' : cs = cur.toList.take n := by rw [← htake, Nat.mul_one]
          refine ⟨by simp; omega, .inr ⟨gb, cap, _, rfl, Nat.zero_le _, setRow_heap w gb cur _ E _ hb, hnc, hcm, ?_, ?_⟩⟩
          · simp; omega
          · simp only [Nat.mul_one, List.take_zero, List.nil_append, Nat.zero_add]
            rw [hcs', List.take_append, List.take_of_length_le (by omega), hm2, List.drop_take]
  obtain ⟨w', e1, e2, e3⟩ := key
  have hrun : (execOp a.eval ⟨some d, .call ⟨.builtin .copy, #[x, y], #[t, t']⟩, ty, pos, aft, g⟩).run C.P w = .ok (.value (.int .i64 (m : Int))) w' := by
    simp [execOp, resolve, invoke, builtin, opv_eval hs hx, opv_eval hs hy, e1, goInt]
  simp only [Oper.wp, hrun, Oper.upon]
  refine hK _ _ (h _ _ ?_)
  have hlt : i < own.length := (List.getElem?_eq_some_iff.1 hi).1
  have hup := HW.update (own2 := []) (A' := row v E 1 n (cs2 ++ cs.drop m)) hf hh hal hlt e3 (HeapAt.one (row_of e2)) (fun j b hb => .inl ((hF b).2 hb.2))
  rw [List.append_nil] at hup
  exact hs.put hup (d := some d) (fun i hi => by cases hi; simpa [Nat.blt_eq] using hd) _

theorem bigA_emp {w : World} {l : List Asn} {F : Nat → Prop} (h : (bigA l).holds w F) : (bigA (l ++ [empA])).holds w F := by
  obtain ⟨Gs, gh, gF⟩ := h
  refine ⟨fun k b => k < l.length ∧ Gs k b, ⟨?_, ?_, ?_⟩, ?_⟩
  · intro k A hk
    by_cases hkl : k < l.length
    · rw [List.getElem?_append_left hkl] at hk
      have := gh.at_ k A hk
      simpa [hkl] using this
    · rw [List.getElem?_append_right (by omega)] at hk
      have : A = empA := by
        cases hkk : k - l.length with
        | zero => rw [hkk] at hk; simpa using hk.symm
        | succ m => rw [hkk] at hk; simp at hk
      subst this
      intro b hb; exact hkl hb.1
  · intro k hk b hb
    simp at hk
    have := hb.1; omega
  · rintro k k' b ⟨_, h1⟩ ⟨_, h2⟩; exact gh.apart k k' b h1 h2
  · intro b
    rw [gF b]
    constructor
    · rintro ⟨k, hk⟩
      refine ⟨k, ?_, hk⟩
      rcases Nat.lt_or_ge k l.length with h | h
      · exact h
      · exact (gh.out k h b hk).elim
    · rintro ⟨k, _, hk⟩; exact ⟨k, hk⟩

/-- what is owned last goes among the many -/
theorem HW.absorb {C : Cx} {own l : List Asn} {w : World} {X : Asn} (j : Nat) (hj : own[j]? = some (bigA l)) (h : HW C (own ++ [X]) w) : HW C (own.set j (bigA (l ++ [X]))) w := by
  have hjl : j < own.length := (List.getElem?_eq_some_iff.1 hj).1
  have h2 : HW C (own.set j (bigA (l ++ [empA])) ++ [X]) w := by
    obtain ⟨hf, Fs, hh, hal⟩ := h
    refine ⟨hf, Fs, ⟨fun k A hk => ?_, fun k hk b hb => hh.out k (by simpa using hk) b hb, hh.apart⟩, hal⟩
    by_cases hkj : k = j
    · subst hkj
      rw [List.getElem?_append_left (by simpa using hjl), List.getElem?_set_self hjl] at hk
      cases hk
      exact bigA_emp (hh.at_ k (bigA l) (by rw [List.getElem?_append_left hjl]; exact hj))
    · refine hh.at_ k A ?_
      rw [← hk]
      by_cases hkl : k < own.length
      · rw [List.getElem?_append_left hkl, List.getElem?_append_left (by simpa using hkl), List.getElem?_set_ne (Ne.symm hkj)]
      · rw [List.getElem?_append_right (by omega), List.getElem?_append_right (by simp; omega)]; simp
  have h3 := HW.putback (C := C) (own := own) (l := l ++ [X]) (X := X) (w := w) j l.length hjl (by simp) (by simpa using h2)
  simpa using h3
theorem AK.absorb {K : Act → World → Prop} (j : Nat) {l : List Asn} {X : Asn} (hj : own[j]? = some (bigA l)) (h : AK C ⟨sl, own.set j (bigA (l ++ [X]))⟩ K) : AK C ⟨sl, own ++ [X]⟩ K :=
  fun a w hs => h a w ⟨hs.size, hs.defers, hs.slot, hs.world.absorb j hj⟩
theorem matL_snoc {E : TypeId} {rs : List Value} {xss : List (List Int)} (h : rs.length = xss.length) (q : Value) (ys : List Int) : matL E (rs ++ [q]) (xss ++ [ys]) = matL E rs xss ++ [row q E 1 ys.length (ys.map (Value.int .i64))] := by
  simp [matL, List.zip_append h]
end
end Go.Sx
