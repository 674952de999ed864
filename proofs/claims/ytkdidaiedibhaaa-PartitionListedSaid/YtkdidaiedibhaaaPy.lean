import Derived.Test.YtkdidaiedibhaaaPx
set_option linter.unusedVariables false
namespace Go.Sx
/-! ### the lattice of partitions -/
theorem okPQ.symm {xs ys : List Int} (h : okPQ xs ys) : okPQ ys xs := ⟨h.1.symm, h.2.2, h.2.1⟩
theorem okPQ.trans {xs ys zs : List Int} (h : okPQ xs ys) (h' : okPQ ys zs) : okPQ xs zs := ⟨h.1.trans h'.1, h.2.1, h'.2.2⟩
theorem okPQ.refl {xs : List Int} (h : ValidP xs) : okPQ xs xs := ⟨rfl, h, h⟩
theorem okPQ.meet {xs ys : List Int} (h : okPQ xs ys) : okPQ xs (meetB xs ys) := ⟨(meetB_len h).symm, h.2.1, valid_meet xs ys h.2.1.1⟩
theorem okPQ.join {xs ys : List Int} (h : okPQ xs ys) : okPQ xs (joinB xs ys) := ⟨(joinB_len h).symm, h.2.1, valid_join xs ys h.2.1.1⟩
theorem meet_none {xs ys : List Int} (h : ¬ okPQ xs ys) : meetB xs ys = [] := by unfold meetB; rw [if_neg h]
theorem join_none {xs ys : List Int} (h : ¬ okPQ xs ys) : joinB xs ys = [] := by unfold joinB; rw [if_neg h]
theorem meet_comm {xs ys : List Int} (h : okPQ xs ys) : meetB xs ys = meetB ys xs := by
  refine eq_of_ker h.meet.2.2 h.symm.meet.2.2 (by rw [meetB_len h, meetB_len h.symm, h.1]) fun i j hi hj => ?_
  rw [meetB_len h] at hi hj
  have hle := h.1
  rw [ker_meet h hi hj, ker_meet h.symm (by omega) (by omega)]
  exact And.comm
theorem join_comm {xs ys : List Int} (h : okPQ xs ys) : joinB xs ys = joinB ys xs := by
  refine eq_of_ker h.join.2.2 h.symm.join.2.2 (by rw [joinB_len h, joinB_len h.symm, h.1]) fun i j hi hj => ?_
  rw [joinB_len h] at hi hj
  have hle := h.1
  rw [ker_join h hi hj, ker_join h.symm (by omega) (by omega)]
  exact Gen.congr (fun a b h => Gen.of h.symm) (fun a b h => Gen.of h.symm) i j
theorem meet_assoc {xs ys zs : List Int} (h : okPQ xs ys) (h' : okPQ ys zs) : meetB (meetB xs ys) zs = meetB xs (meetB ys zs) := by
  have k1 : okPQ (meetB xs ys) zs := h.meet.symm.trans (h.trans h')
  have k2 : okPQ xs (meetB ys zs) := h.trans h'.meet
  have hl := meetB_len h
  have hl' := meetB_len h'
  have hle := h.1
  refine eq_of_ker k1.meet.2.2 k2.meet.2.2 (by rw [meetB_len k1, meetB_len k2, hl]) fun i j hi hj => ?_
  rw [meetB_len k1, hl] at hi hj
  rw [ker_meet k1 (by omega) (by omega), ker_meet h hi hj, ker_meet k2 hi hj, ker_meet h' (by omega) (by omega)]
  exact and_assoc
theorem ker_out {xs : List Int} {i j : Nat} (h : Ker xs i j) : i = j ∨ (i < xs.length ∧ j < xs.length) := by
  rcases h with h | ⟨h1, h2, _⟩
  · exact .inl h
  · exact .inr ⟨h1, h2⟩
theorem ker_join' {xs ys : List Int} (h : okPQ xs ys) {i j : Nat} : Ker (joinB xs ys) i j ↔ Gen (fun a b => Ker xs a b ∨ Ker ys a b) i j := by
  have hle := h.1
  constructor
  · intro hk
    rcases ker_out hk with rfl | ⟨h1, h2⟩
    · exact (Gen.eqv _).refl i
    · rw [joinB_len h] at h1 h2; exact (ker_join h h1 h2).1 hk
  · intro hg
    refine Gen.le (Ker.eqv _) ?_ hg
    intro a b hab
    have : a = b ∨ (a < xs.length ∧ b < xs.length) := by
      rcases hab with hab | hab
      · exact ker_out hab
      · have := ker_out hab; omega
    rcases this with rfl | ⟨h1, h2⟩
    · exact (Ker.eqv _).refl a
    · exact (ker_join h h1 h2).2 (Gen.of hab)
theorem ker_meet' {xs ys : List Int} (h : okPQ xs ys) {i j : Nat} : Ker (meetB xs ys) i j ↔ (Ker xs i j ∧ Ker ys i j) := by
  constructor
  · intro hk
    rcases ker_out hk with rfl | ⟨h1, h2⟩
    · exact ⟨(Ker.eqv _).refl i, (Ker.eqv _).refl i⟩
    · rw [meetB_len h] at h1 h2; exact (ker_meet h h1 h2).1 hk
  · intro hg
    rcases ker_out hg.1 with rfl | ⟨h1, h2⟩
    · exact (Ker.eqv _).refl i
    · exact (ker_meet h h1 h2).2 hg
theorem join_assoc {xs ys zs : List Int} (h : okPQ xs ys) (h' : okPQ ys zs) : joinB (joinB xs ys) zs = joinB xs (joinB ys zs) := by
  have k1 : okPQ (joinB xs ys) zs := h.join.symm.trans (h.trans h')
  have k2 : okPQ xs (joinB ys zs) := h.trans h'.join
  have hl := joinB_len h
  refine eq_of_ker k1.join.2.2 k2.join.2.2 (by rw [joinB_len k1, joinB_len k2, hl]) fun i j hi hj => ?_
  rw [ker_join' k1, ker_join' k2]
  refine Gen.congr (fun a b hab => ?_) (fun a b hab => ?_) i j
  · rcases hab with hab | hab
    · refine Gen.mono (fun a b hab => ?_) ((ker_join' h).1 hab)
      rcases hab with hab | hab
      · exact Gen.of (.inl hab)
      · exact Gen.of (.inr ((ker_join' h').2 (Gen.of (.inl hab))))
    · exact Gen.of (.inr ((ker_join' h').2 (Gen.of (.inr hab))))
  · rcases hab with hab | hab
    · exact Gen.of (.inl ((ker_join' h).2 (Gen.of (.inl hab))))
    · refine Gen.mono (fun a b hab => ?_) ((ker_join' h').1 hab)
      rcases hab with hab | hab
      · exact Gen.of (.inl ((ker_join' h).2 (Gen.of (.inr hab))))
      · exact Gen.of (.inr hab)
theorem absorb_join {xs ys : List Int} (h : okPQ xs ys) : joinB xs (meetB xs ys) = xs := by
  refine eq_of_ker h.meet.join.2.2 h.2.1 (joinB_len h.meet) fun i j hi hj => ?_
  rw [ker_join' h.meet]
  constructor
  · exact Gen.le (Ker.eqv xs) (fun a b hab => hab.elim id fun hab => ((ker_meet' h).1 hab).1)
  · intro hk; exact Gen.of (.inl hk)
theorem absorb_meet {xs ys : List Int} (h : okPQ xs ys) : meetB xs (joinB xs ys) = xs := by
  refine eq_of_ker h.join.meet.2.2 h.2.1 (meetB_len h.join) fun i j hi hj => ?_
  rw [ker_meet' h.join, ker_join' h]
  exact ⟨fun h => h.1, fun hk => ⟨hk, Gen.of (.inl hk)⟩⟩
/-! ### the order -/
theorem refB_iff {xs ys : List Int} : refB xs ys = true ↔ okPQ xs ys ∧ ∀ i j, Ker xs i j → Ker ys i j := by
  unfold refB
  rw [Bool.and_eq_true, decide_eq_true_eq, kerB_iff]
  constructor
  · rintro ⟨h, hk⟩
    refine ⟨h, fun i j hij => ?_⟩
    rcases hij with rfl | ⟨h1, h2, h3⟩
    · exact (Ker.eqv ys).refl i
    · have := h.1; exact .inr ⟨by omega, by omega, hk i j h1 h2 h3⟩
  · rintro ⟨h, hk⟩
    refine ⟨h, fun i j h1 h2 e => ?_⟩
    have := h.1
    exact (Ker.iff (by omega) (by omega)).1 (hk i j (.inr ⟨h1, h2, e⟩))
theorem ref_meet1 {xs ys : List Int} (h : okPQ xs ys) : refB (meetB xs ys) xs = true := refB_iff.2 ⟨h.meet.symm, fun i j hk => ((ker_meet' h).1 hk).1⟩
theorem ref_meet2 {xs ys : List Int} (h : okPQ xs ys) : refB (meetB xs ys) ys = true := refB_iff.2 ⟨h.meet.symm.trans h, fun i j hk => ((ker_meet' h).1 hk).2⟩
theorem ref_join1 {xs ys : List Int} (h : okPQ xs ys) : refB xs (joinB xs ys) = true := refB_iff.2 ⟨h.join, fun i j hk => (ker_join' h).2 (Gen.of (.inl hk))⟩
theorem ref_join2 {xs ys : List Int} (h : okPQ xs ys) : refB ys (joinB xs ys) = true := refB_iff.2 ⟨h.symm.trans h.join, fun i j hk => (ker_join' h).2 (Gen.of (.inr hk))⟩
theorem ref_under {xs ys zs : List Int} (h : okPQ xs ys) : (refB zs xs && refB zs ys) = refB zs (meetB xs ys) := by
  apply Bool.eq_iff_iff.2
  rw [Bool.and_eq_true, refB_iff, refB_iff, refB_iff]
  constructor
  · rintro ⟨⟨h1, h2⟩, h3, h4⟩; exact ⟨h1.trans h.meet, fun i j hk => (ker_meet' h).2 ⟨h2 i j hk, h4 i j hk⟩⟩
  · rintro ⟨h1, h2⟩
    have k := h1.trans h.meet.symm
    exact ⟨⟨k, fun i j hk => ((ker_meet' h).1 (h2 i j hk)).1⟩, k.trans h, fun i j hk => ((ker_meet' h).1 (h2 i j hk)).2⟩
theorem ref_above {xs ys zs : List Int} (h : okPQ xs ys) : (refB xs zs && refB ys zs) = refB (joinB xs ys) zs := by
  apply Bool.eq_iff_iff.2
  rw [Bool.and_eq_true, refB_iff, refB_iff, refB_iff]
  constructor
  · rintro ⟨⟨h1, h2⟩, h3, h4⟩; exact ⟨h.join.symm.trans h1, fun i j hk => Gen.le (Ker.eqv zs) (fun a b hab => hab.elim (h2 a b) (h4 a b)) ((ker_join' h).1 hk)⟩
  · rintro ⟨h1, h2⟩
    have k := h.join.trans h1
    exact ⟨⟨k, fun i j hk => h2 i j ((ker_join' h).2 (Gen.of (.inl hk)))⟩, h.symm.trans k, fun i j hk => h2 i j ((ker_join' h).2 (Gen.of (.inr hk)))⟩
/-! ### lists of pairs -/
theorem fromB_len {n : Int} {ps : List (Int × Int)} (h : mayP n ps) : (fromB n ps).length = n.toNat := by unfold fromB; rw [if_pos h, canon_length, rhoL_length]
theorem valid_fromB (n : Int) (ps : List (Int × Int)) : ValidP (fromB n ps) := by
  refine ⟨fromB_le n ps, ?_⟩
  unfold fromB
  split
  · exact canon_canon _
  · rfl
theorem ker_fromB {n : Int} {ps : List (Int × Int)} (h : mayP n ps) {i j : Nat} : Ker (fromB n ps) i j ↔ Gen (PR ps) i j := by
  have e : fromB n ps = canon (rhoL n.toNat (ufs ps)) := by unfold fromB; rw [if_pos h]
  have hin : ∀ a b, PR ps a b → a < n.toNat ∧ b < n.toNat := by
    rintro a b ⟨p, hp, rfl, rfl⟩
    have := h.2 p hp
    unfold okp at this
    omega
  have key : ∀ {i j}, i < n.toNat → j < n.toNat → (Ker (fromB n ps) i j ↔ Gen (PR ps) i j) := by
    intro i j hi hj
    rw [e, ker_canon, ker_rho hi hj, ufs_gen]
  constructor
  · intro hk
    rcases ker_out hk with rfl | ⟨h1, h2⟩
    · exact (Gen.eqv _).refl i
    · rw [fromB_len h] at h1 h2; exact (key h1 h2).1 hk
  · refine Gen.le (Ker.eqv _) fun a b hab => ?_
    obtain ⟨h1, h2⟩ := hin a b hab
    exact (key h1 h2).2 (Gen.of hab)
theorem mayP_append {n : Int} {a b : List (Int × Int)} (ha : mayP n a) (hb : mayP n b) : mayP n (a ++ b) := ⟨ha.1, fun p hp => (List.mem_append.1 hp).elim (ha.2 p) (hb.2 p)⟩
theorem ok_fromB {n : Int} {a b : List (Int × Int)} (ha : mayP n a) (hb : mayP n b) : okPQ (fromB n a) (fromB n b) := ⟨by rw [fromB_len ha, fromB_len hb], valid_fromB n a, valid_fromB n b⟩
theorem fromB_join {n : Int} {a b : List (Int × Int)} (ha : mayP n a) (hb : mayP n b) : joinB (fromB n a) (fromB n b) = fromB n (a ++ b) := by
  have hok := ok_fromB ha hb
  refine eq_of_ker hok.join.2.2 (valid_fromB _ _) (by rw [joinB_len hok, fromB_len ha, fromB_len (mayP_append ha hb)]) fun i j _ _ => ?_
  rw [ker_join' hok, ker_fromB (mayP_append ha hb)]
  refine Gen.congr (fun x y h => ?_) (fun x y h => ?_) i j
  · rcases h with h | h
    · exact Gen.mono (fun x y h => Gen.of ((PR_append a b x y).2 (.inl h))) ((ker_fromB ha).1 h)
    · exact Gen.mono (fun x y h => Gen.of ((PR_append a b x y).2 (.inr h))) ((ker_fromB hb).1 h)
  · rcases (PR_append a b x y).1 h with h | h
    · exact Gen.of (.inl ((ker_fromB ha).2 (Gen.of h)))
    · exact Gen.of (.inr ((ker_fromB hb).2 (Gen.of h)))
/-- the pairs of neighbours of a class, the first m - 1 of them -/
def nbP (cl : List Int) (m : Nat) : List (Int × Int) := (List.range (m - 1)).map fun i => (cl.getD i 0, cl.getD (i + 1) 0)
def lstP (cls : List (List Int)) : List (Int × Int) := cls.flatMap fun cl => nbP cl cl.length
theorem nbP_succ (cl : List Int) {m : Nat} (h : 1 ≤ m) : nbP cl (m + 1) = nbP cl m ++ [(cl.getD (m - 1) 0, cl.getD m 0)] := by
  unfold nbP
  rw [show m + 1 - 1 = (m - 1) + 1 from by omega, List.range_succ, List.map_append]
  simp [show m - 1 + 1 = m from by omega]
theorem nbP_length (cl : List Int) (m : Nat) : (nbP cl m).length = m - 1 := by simp [nbP]
theorem classB_ne {xs : List Int} (hv : ValidP xs) {a : Nat} (ha : a < (classB xs).length) : True := trivial
theorem lstP_may {xs : List Int} (hv : ValidP xs) : mayP (xs.length : Int) (lstP (classB xs)) := by
  refine ⟨by have := hv.1; omega, fun p hp => ?_⟩
  unfold lstP at hp
  rw [List.mem_flatMap] at hp
  obtain ⟨cl, hcl, hp⟩ := hp
  obtain ⟨m, hm, rfl⟩ := List.getElem_of_mem hcl
  have hce : (classB xs)[m] = (classB xs).getD m [] := by simp [List.getD_eq_getElem?_getD, hm]
  rw [hce] at hp
  unfold nbP at hp
  rw [List.mem_map] at hp
  obtain ⟨i, hi, rfl⟩ := hp
  rw [List.mem_range] at hi
  obtain ⟨b1, b2, _⟩ := cl_at hv hm (m := i) (by omega)
  obtain ⟨c1, c2, _⟩ := cl_at hv hm (m := i + 1) (by omega)
  exact ⟨b1, b2, c1, c2⟩
theorem fromB_lst {xs : List Int} (hv : ValidP xs) : fromB (xs.length : Int) (lstP (classB xs)) = xs := by
  have hm := lstP_may hv
  refine eq_of_ker (valid_fromB _ _) hv (by rw [fromB_len hm]; simp) fun i j hi hj => ?_
  rw [fromB_len hm] at hi hj
  rw [ker_fromB hm]
  constructor
  · refine Gen.le (Ker.eqv xs) ?_
    rintro a b ⟨p, hp, rfl, rfl⟩
    unfold lstP at hp
    rw [List.mem_flatMap] at hp
    obtain ⟨cl, hcl, hp⟩ := hp
    obtain ⟨m, hm, rfl⟩ := List.getElem_of_mem hcl
    have hce : (classB xs)[m] = (classB xs).getD m [] := by simp [List.getD_eq_getElem?_getD, hm]
    rw [hce] at hp
    unfold nbP at hp
    rw [List.mem_map] at hp
    obtain ⟨i, hi, rfl⟩ := hp
    rw [List.mem_range] at hi
    obtain ⟨b1, b2, b3⟩ := cl_at hv hm (m := i) (by omega)
    obtain ⟨c1, c2, c3⟩ := cl_at hv hm (m := i + 1) (by omega)
    exact .inr ⟨by dsimp only; omega, by dsimp only; omega, by dsimp only; rw [b3, c3]⟩
  · rintro (rfl | ⟨hk, hl, he⟩)
    · exact (Gen.eqv _).refl i
    · obtain ⟨v1, v2, v3⟩ := valid_cnt hv
      have hi' := v3 _ (mem_getD 0 hk)
      have ha : (xs.getD i 0).toNat < (classB xs).length := by rw [classB_len hv]; omega
      have G := Gen.eqv (PR (lstP (classB xs)))
      have chain : ∀ m, m < ((classB xs).getD (xs.getD i 0).toNat []).length → Gen (PR (lstP (classB xs))) (((classB xs).getD (xs.getD i 0).toNat []).getD 0 0).toNat (((classB xs).getD (xs.getD i 0).toNat []).getD m 0).toNat := by
        intro m
        induction m with
        | zero => intro _; exact G.refl _
        | succ m ih =>
          intro hm
          refine G.trans _ _ _ (ih (by omega)) (Gen.of ⟨(_, _), ?_, rfl, rfl⟩)
          unfold lstP
          rw [List.mem_flatMap]
          refine ⟨_, mem_getD [] ha, ?_⟩
          unfold nbP
          rw [List.mem_map]
          exact ⟨m, List.mem_range.2 (by omega), rfl⟩
      have key : ∀ k, k < xs.length → xs.getD k 0 = xs.getD i 0 → Gen (PR (lstP (classB xs))) (((classB xs).getD (xs.getD i 0).toNat []).getD 0 0).toNat k := by
        intro k hk' hki
        have hmem := (classB_mem hv ha (k : Int)).2 ⟨by omega, by omega, by simp only [Int.toNat_natCast]; rw [hki]; omega⟩
        obtain ⟨m, hm', e⟩ := List.getElem_of_mem hmem
        have := chain m hm'
        have e' : ((classB xs).getD (xs.getD i 0).toNat []).getD m 0 = (k : Int) := by rw [List.getD_eq_getElem?_getD, List.getElem?_eq_getElem hm', e]; rfl
        rw [e'] at this
        simpa using this
      exact G.trans _ _ _ (G.symm _ _ (key i hk rfl)) (key j hl he.symm)
end Go.Sx
