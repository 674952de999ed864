import Derived.Test.YtkdidaiedibhaaaA1
set_option linter.unusedVariables false
set_option linter.unusedSimpArgs false
namespace Go.Proofs.Ytkdidaiedibhaaa
open Go.Sx Go.RowKit
set_option maxRecDepth 100000 in
theorem s_root (w : World) (F : Nat → Prop) (v : Value) (f : List Int) (ρ : Nat → Nat) (n : Nat) (i : Int) (hA : (row v 3 1 n (f.map (Value.int .i64))).holds w F) (hr : Rep ρ f n) (hi : 0 ≤ i ∧ i < n) (hn : n ≤ 4096) : CallM Try.prog 50 [v, .int .i64 i] w F (fun r A o => ∃ f', Rep ρ f' n ∧ r = .int .i64 ((ρ i.toNat : Nat) : Int) ∧ A = row v 3 1 n (f'.map (Value.int .i64)) ∧ o = []) := by
  refine specM_of Try.func50 rfl (Nat.le_of_ble_eq_true rfl) hA ?_
  refine AK.seq (fun _ hK1 => ?_)
  refine AK.region ?_
  refine AK.val _ (Yl.assign rfl) trivial rfl ?_
  refine AK.nil ?_
  refine AK.then_ (hK1 _ ?_)
  refine AK.seq (fun _ hK2 => ?_)
  refine AK.block ?_
  refine AK.loopS (X := Nat × List Int) [0] (fun x => [(1, .int .i64 (x.1 : Int))]) (fun x => [row v 3 1 n (x.2.map (Value.int .i64))]) (fun x => Rep ρ x.2 n ∧ x.1 < n ∧ ρ x.1 = ρ i.toNat) (fun x => x.1) ((i.toNat, f)) ?_ ?_ ?_ ?_
  · exact ⟨hr, by dsimp only; omega, rfl⟩
  · exact .cons (slI rfl (by dsimp only; omega)) (.nil)
  · exact fun w hw => hw
  · intro x hg0 _ hK3
    obtain ⟨hr1, hi1, hp⟩ := hg0
    have hl := hr1.1
    obtain ⟨a1, a2, a3, a4, a5⟩ := hr1.2 x.1 hi1
    have b := hr1.2 (x.2.getD x.1 0).toNat (by omega)
    refine AK.seq (fun _ hK4 => ?_)
    refine AK.seq (fun _ hK5 => ?_)
    refine AK.region ?_
    refine AK.val _ (Yl.move rfl) trivial rfl ?_
    refine AK.val _ (Yl.move rfl) trivial rfl ?_
    first | refine AK.val _ (Yl.idxN sl46 rfl rfl (by first | exact .arg ‹_› | exact .own 0 rfl | exact .own 1 rfl | exact .own 2 rfl | exact .own 3 rfl | exact .own 4 rfl | exact .own 5 rfl | exact .own 6 rfl | exact .own 7 rfl | exact .own 8 rfl | assumption) (by decide) (by omega)) trivial rfl ?_ | refine AK.val _ (Yl.idx sl46 rfl rfl (by first | exact .arg ‹_› | exact .own 0 rfl | exact .own 1 rfl | exact .own 2 rfl | exact .own 3 rfl | exact .own 4 rfl | exact .own 5 rfl | exact .own 6 rfl | exact .own 7 rfl | exact .own 8 rfl | assumption) (by decide) (by omega)) trivial rfl ?_
    refine AK.val _ (Yl.loadI on3 rfl (by first | exact .arg ‹_› | exact .own 0 rfl | exact .own 1 rfl | exact .own 2 rfl | exact .own 3 rfl | exact .own 4 rfl | exact .own 5 rfl | exact .own 6 rfl | exact .own 7 rfl | exact .own 8 rfl | assumption) (by omega)) trivial rfl ?_
    refine AK.val _ (Yl.move rfl) trivial rfl ?_
    refine AK.val _ (Yl.neq rfl rfl) trivial rfl ?_
    refine AK.nil ?_
    refine AK.then_ (hK5 _ ?_)
    refine AK.condNe rfl (fun hc0 => ?_) (fun hc0 => ?_)
    · refine AK.skip ?_
      refine AK.then_ (hK4 _ ?_)
      refine AK.block ?_
      refine AK.seq (fun _ hK6 => ?_)
      refine AK.region ?_
      refine AK.val _ (Yl.move rfl) trivial rfl ?_
      refine AK.val _ (Yl.move rfl) trivial rfl ?_
      refine AK.val _ (Yl.move rfl) trivial rfl ?_
      refine AK.val _ (Yl.move rfl) trivial rfl ?_
      refine AK.val _ (Yl.move rfl) trivial rfl ?_
      first | refine AK.val _ (Yl.idxN sl46 rfl rfl (by first | exact .arg ‹_› | exact .own 0 rfl | exact .own 1 rfl | exact .own 2 rfl | exact .own 3 rfl | exact .own 4 rfl | exact .own 5 rfl | exact .own 6 rfl | exact .own 7 rfl | exact .own 8 rfl | assumption) (by decide) (by omega)) trivial rfl ?_ | refine AK.val _ (Yl.idx sl46 rfl rfl (by first | exact .arg ‹_› | exact .own 0 rfl | exact .own 1 rfl | exact .own 2 rfl | exact .own 3 rfl | exact .own 4 rfl | exact .own 5 rfl | exact .own 6 rfl | exact .own 7 rfl | exact .own 8 rfl | assumption) (by decide) (by omega)) trivial rfl ?_
      refine AK.val _ (Yl.loadI on3 rfl (by first | exact .arg ‹_› | exact .own 0 rfl | exact .own 1 rfl | exact .own 2 rfl | exact .own 3 rfl | exact .own 4 rfl | exact .own 5 rfl | exact .own 6 rfl | exact .own 7 rfl | exact .own 8 rfl | assumption) (by omega)) trivial rfl ?_
      first | refine AK.val _ (Yl.idxN sl46 rfl rfl (by first | exact .arg ‹_› | exact .own 0 rfl | exact .own 1 rfl | exact .own 2 rfl | exact .own 3 rfl | exact .own 4 rfl | exact .own 5 rfl | exact .own 6 rfl | exact .own 7 rfl | exact .own 8 rfl | assumption) (by decide) (by omega)) trivial rfl ?_ | refine AK.val _ (Yl.idx sl46 rfl rfl (by first | exact .arg ‹_› | exact .own 0 rfl | exact .own 1 rfl | exact .own 2 rfl | exact .own 3 rfl | exact .own 4 rfl | exact .own 5 rfl | exact .own 6 rfl | exact .own 7 rfl | exact .own 8 rfl | assumption) (by decide) (by omega)) trivial rfl ?_
      refine AK.val _ (Yl.loadI on3 rfl (by first | exact .arg ‹_› | exact .own 0 rfl | exact .own 1 rfl | exact .own 2 rfl | exact .own 3 rfl | exact .own 4 rfl | exact .own 5 rfl | exact .own 6 rfl | exact .own 7 rfl | exact .own 8 rfl | assumption) (by omega)) trivial rfl ?_
      first | refine AK.val _ (Yl.idxN sl46 rfl rfl (by first | exact .arg ‹_› | exact .own 0 rfl | exact .own 1 rfl | exact .own 2 rfl | exact .own 3 rfl | exact .own 4 rfl | exact .own 5 rfl | exact .own 6 rfl | exact .own 7 rfl | exact .own 8 rfl | assumption) (by decide) (by omega)) trivial rfl ?_ | refine AK.val _ (Yl.idx sl46 rfl rfl (by first | exact .arg ‹_› | exact .own 0 rfl | exact .own 1 rfl | exact .own 2 rfl | exact .own 3 rfl | exact .own 4 rfl | exact .own 5 rfl | exact .own 6 rfl | exact .own 7 rfl | exact .own 8 rfl | assumption) (by decide) (by omega)) trivial rfl ?_
      refine AK.store1e 0 rfl sz3 rfl rfl rfl rfl (by omega) (cs' := ((x.2.set x.1 (x.2.getD (x.2.getD x.1 0).toNat 0)).map (Value.int .i64))) (by rw [List.map_set]) trivial ?_
      refine AK.nil ?_
      refine AK.then_ (hK6 _ ?_)
      refine AK.region ?_
      refine AK.val _ (Yl.move rfl) trivial rfl ?_
      refine AK.val _ (Yl.move rfl) trivial rfl ?_
      first | refine AK.val _ (Yl.idxN sl46 rfl rfl (by first | exact .arg ‹_› | exact .own 0 rfl | exact .own 1 rfl | exact .own 2 rfl | exact .own 3 rfl | exact .own 4 rfl | exact .own 5 rfl | exact .own 6 rfl | exact .own 7 rfl | exact .own 8 rfl | assumption) (by decide) (by omega)) trivial rfl ?_ | refine AK.val _ (Yl.idx sl46 rfl rfl (by first | exact .arg ‹_› | exact .own 0 rfl | exact .own 1 rfl | exact .own 2 rfl | exact .own 3 rfl | exact .own 4 rfl | exact .own 5 rfl | exact .own 6 rfl | exact .own 7 rfl | exact .own 8 rfl | assumption) (by decide) (by omega)) trivial rfl ?_
      refine AK.val _ (Yl.loadI on3 rfl (by first | exact .arg ‹_› | exact .own 0 rfl | exact .own 1 rfl | exact .own 2 rfl | exact .own 3 rfl | exact .own 4 rfl | exact .own 5 rfl | exact .own 6 rfl | exact .own 7 rfl | exact .own 8 rfl | assumption) (by rw [List.length_set]; omega)) trivial rfl ?_
      refine AK.val _ (Yl.assign rfl) trivial rfl ?_
      refine AK.nil ?_
      refine AK.block_normal ?_
      refine AK.then_ (hK3 _ _ (((x.2.getD (x.2.getD x.1 0).toNat 0).toNat, x.2.set x.1 (x.2.getD (x.2.getD x.1 0).toNat 0))) ⟨hr1.halve hi1 hc0, by dsimp only; omega, by show ρ _ = _; rw [b.2.2.1, a3, hp]⟩ (by dsimp only; omega) (.cons (slI rfl (by rw [getD_set_same (by omega)]; dsimp only; omega)) (.cons rfl (.nil))) (fun w hw => hw))
    · refine AK.exit ?_
      refine AK.then_exit ?_
      refine AK.then_exit ?_
      refine AK.block_exit ?_
      refine AK.then_ (hK2 _ ?_)
      refine AK.seq (fun _ hK7 => ?_)
      refine AK.region ?_
      refine AK.val _ (Yl.move rfl) trivial rfl ?_
      refine AK.val _ (Yl.assign rfl) trivial rfl ?_
      refine AK.nil ?_
      refine AK.then_ (hK7 _ ?_)
      refine AK.ret ?_
      refine AK.ret1 rfl rfl (fun w hw => ⟨_, _, _, ?_, rfl, Ret.of (hw.pick [0] (by decide) rfl rfl)⟩)
      exact ⟨x.2, hr1, by rw [← hp, a4.1 hc0], rfl, rfl⟩

set_option maxRecDepth 100000 in
theorem s_union (w : World) (F : Nat → Prop) (v : Value) (f : List Int) (ρ : Nat → Nat) (n : Nat) (i j : Int) (hA : (row v 3 1 n (f.map (Value.int .i64))).holds w F) (hr : Rep ρ f n) (hi : 0 ≤ i ∧ i < n) (hj : 0 ≤ j ∧ j < n) (hn : n ≤ 4096) : CallM Try.prog 45 [v, .int .i64 i, .int .i64 j] w F (fun r A o => ∃ f', Rep (ufstep ρ i.toNat j.toNat) f' n ∧ r = .tuple #[] ∧ A = row v 3 1 n (f'.map (Value.int .i64)) ∧ o = []) := by
  have hri : ρ i.toNat < n := by have := (hr.2 i.toNat (by omega)).2.2.2.2; omega
  have hrj : ρ j.toNat < n := by have := (hr.2 j.toNat (by omega)).2.2.2.2; omega
  refine specM_of Try.func45 rfl (Nat.le_of_ble_eq_true rfl) hA ?_
  refine AK.seq (fun _ hK1 => ?_)
  refine AK.region ?_
  refine AK.val _ (Yl.move rfl) trivial rfl ?_
  refine AK.val _ (Yl.move rfl) trivial rfl ?_
  refine AK.callM 0 rfl co50 rfl (fun w F hw hA => s_root w F v f ρ n i hA hr hi hn) trivial rfl ?_
  rintro r A o ⟨f1, hr1, rfl, rfl, rfl⟩
  refine AK.val _ (Yl.move rfl) trivial rfl ?_
  refine AK.val _ (Yl.move rfl) trivial rfl ?_
  refine AK.callM 0 rfl co50 rfl (fun w F hw hA => s_root w F v f1 ρ n j hA hr1 hj hn) trivial rfl ?_
  rintro r A o ⟨f2, hr2, rfl, rfl, rfl⟩
  refine AK.val _ (Yl.assign rfl) trivial rfl ?_
  refine AK.val _ (Yl.assign rfl) trivial rfl ?_
  refine AK.nil ?_
  refine AK.then_ (hK1 _ ?_)
  refine AK.region ?_
  refine AK.val _ (Yl.move rfl) trivial rfl ?_
  refine AK.val _ (Yl.move rfl) trivial rfl ?_
  refine AK.val _ (Yl.move rfl) trivial rfl ?_
  refine AK.val _ (Yl.max rfl rfl) trivial rfl ?_
  refine AK.val _ (Yl.move rfl) trivial rfl ?_
  refine AK.val _ (Yl.move rfl) trivial rfl ?_
  refine AK.val _ (Yl.min rfl rfl) trivial rfl ?_
  first | refine AK.val _ (Yl.idxN sl46 rfl rfl (by first | exact .arg ‹_› | exact .own 0 rfl | exact .own 1 rfl | exact .own 2 rfl | exact .own 3 rfl | exact .own 4 rfl | exact .own 5 rfl | exact .own 6 rfl | exact .own 7 rfl | exact .own 8 rfl | assumption) (by decide) (by omega)) trivial rfl ?_ | refine AK.val _ (Yl.idx sl46 rfl rfl (by first | exact .arg ‹_› | exact .own 0 rfl | exact .own 1 rfl | exact .own 2 rfl | exact .own 3 rfl | exact .own 4 rfl | exact .own 5 rfl | exact .own 6 rfl | exact .own 7 rfl | exact .own 8 rfl | assumption) (by decide) (by omega)) trivial rfl ?_
  refine AK.store1e 0 rfl sz3 rfl rfl rfl rfl (by omega) (cs' := ((f2.set (max (ρ i.toNat) (ρ j.toNat)) ((min (ρ i.toNat) (ρ j.toNat) : Nat) : Int)).map (Value.int .i64))) (by rw [List.map_set, show (max ((ρ i.toNat : Nat) : Int) ((ρ j.toNat : Nat) : Int)).toNat = max (ρ i.toNat) (ρ j.toNat) from by omega, show min ((ρ i.toNat : Nat) : Int) ((ρ j.toNat : Nat) : Int) = ((min (ρ i.toNat) (ρ j.toNat) : Nat) : Int) from by omega]) trivial ?_
  refine AK.nil ?_
  refine AK.end0 rfl (fun w hw => ⟨_, _, _, ?_, rfl, Ret.of (hw.pick [0] (by decide) rfl rfl)⟩)
  exact ⟨_, hr2.union (i := i.toNat) (j := j.toNat) (by omega) (by omega), rfl, rfl, rfl⟩

set_option maxRecDepth 100000 in
theorem s_fpart (w : World) (F : Nat → Prop) (v : Value) (f : List Int) (ρ : Nat → Nat) (n : Nat) (hA : (row v 3 1 n (f.map (Value.int .i64))).holds w F) (hr : Rep ρ f n) (hn : n ≤ 4096) : CallM Try.prog 46 [v] w F (fun r A o => ∃ f', Rep ρ f' n ∧ A = row v 3 1 n (f'.map (Value.int .i64)) ∧ o = [row r 3 1 n ((canon (rhoL n ρ)).map (Value.int .i64))]) := by
  refine specM_of Try.func46 rfl (Nat.le_of_ble_eq_true rfl) hA ?_
  refine AK.seq (fun _ hK1 => ?_)
  refine AK.region ?_
  refine AK.val _ (Yl.assign rfl) trivial rfl ?_
  refine AK.nil ?_
  refine AK.then_ (hK1 _ ?_)
  refine AK.seq (fun _ hK2 => ?_)
  refine AK.region ?_
  refine AK.val _ (Yl.move rfl) trivial rfl ?_
  refine AK.val _ (Yl.lenR sl46 rfl (by first | exact .arg ‹_› | exact .own 0 rfl | exact .own 1 rfl | exact .own 2 rfl | exact .own 3 rfl | exact .own 4 rfl | exact .own 5 rfl | exact .own 6 rfl | exact .own 7 rfl | exact .own 8 rfl | assumption)) trivial rfl ?_
  refine AK.make1 sl22 el3 rfl rfl rfl (by omega) (by omega) trivial rfl (fun mv0 => ?_)
  refine AK.val _ (Yl.assign rfl) trivial rfl ?_
  refine AK.nil ?_
  refine AK.then_ (hK2 _ ?_)
  refine AK.seq (fun _ hK3 => ?_)
  refine AK.seq (fun _ hK4 => ?_)
  refine AK.region ?_
  refine AK.val _ (Yl.move rfl) trivial rfl ?_
  refine AK.val _ (Yl.lenR sl46 rfl (by first | exact .arg ‹_› | exact .own 0 rfl | exact .own 1 rfl | exact .own 2 rfl | exact .own 3 rfl | exact .own 4 rfl | exact .own 5 rfl | exact .own 6 rfl | exact .own 7 rfl | exact .own 8 rfl | assumption)) trivial rfl ?_
  refine AK.val _ (Yl.move rfl) trivial rfl ?_
  refine AK.nil ?_
  refine AK.then_ (hK4 _ ?_)
  refine AK.block ?_
  refine AK.loopS (X := Nat × List Int) [0, 3, 9] (fun x => [(10, .int .i64 (x.1 : Int))]) (fun x => [row v 3 1 n (x.2.map (Value.int .i64)), row mv0 3 1 n ((rhoL x.1 ρ ++ List.replicate (n - x.1) 0).map (Value.int .i64))]) (fun x => Rep ρ x.2 n ∧ x.1 ≤ n) (fun x => n - x.1) ((0, f)) ?_ ?_ ?_ ?_
  · exact ⟨hr, Nat.zero_le _⟩
  · exact .cons (rfl) (.nil)
  · exact fun w hw => by simpa [rhoL] using hw
  · intro x hg0 _ hK5
    obtain ⟨hr1, hi1⟩ := hg0
    have hl := hr1.1
    refine AK.seq (fun _ hK6 => ?_)
    refine AK.region ?_
    refine AK.val _ (Yl.lss rfl rfl) trivial rfl ?_
    refine AK.nil ?_
    refine AK.then_ (hK6 _ ?_)
    refine AK.seq (fun _ hK7 => ?_)
    refine AK.condD rfl (fun hc0 => ?_) (fun hc0 => ?_)
    · refine AK.skip ?_
      refine AK.then_ (hK7 _ ?_)
      refine AK.seq (fun _ hK8 => ?_)
      refine AK.block ?_
      refine AK.seq (fun _ hK9 => ?_)
      refine AK.region ?_
      refine AK.val _ (Yl.move rfl) trivial rfl ?_
      refine AK.val _ (Yl.assign rfl) trivial rfl ?_
      refine AK.nil ?_
      refine AK.then_ (hK9 _ ?_)
      refine AK.region ?_
      refine AK.val _ (Yl.move rfl) trivial rfl ?_
      refine AK.val _ (Yl.move rfl) trivial rfl ?_
      refine AK.val _ (Yl.move rfl) trivial rfl ?_
      refine AK.val _ (Yl.move rfl) trivial rfl ?_
      refine AK.callM 0 rfl co50 rfl (fun w F hw hA => s_root w F v x.2 ρ n (x.1 : Int) hA hr1 (by omega) hn) trivial rfl ?_
      rintro r A o ⟨f1, hr2, rfl, rfl, rfl⟩
      first | refine AK.val _ (Yl.idxN sl22 rfl rfl (by first | exact .arg ‹_› | exact .own 0 rfl | exact .own 1 rfl | exact .own 2 rfl | exact .own 3 rfl | exact .own 4 rfl | exact .own 5 rfl | exact .own 6 rfl | exact .own 7 rfl | exact .own 8 rfl | assumption) (by decide) (by omega)) trivial rfl ?_ | refine AK.val _ (Yl.idx sl22 rfl rfl (by first | exact .arg ‹_› | exact .own 0 rfl | exact .own 1 rfl | exact .own 2 rfl | exact .own 3 rfl | exact .own 4 rfl | exact .own 5 rfl | exact .own 6 rfl | exact .own 7 rfl | exact .own 8 rfl | assumption) (by decide) (by omega)) trivial rfl ?_
      refine AK.store1e 1 rfl sz3 rfl rfl rfl rfl (by omega) (cs' := ((rhoL (x.1 + 1) ρ ++ List.replicate (n - (x.1 + 1)) 0).map (Value.int .i64))) (by rw [rhoL_succ]; exact fill_set (Value.int .i64) (rhoL x.1 ρ) 0 _ n x.1 (rhoL_length _ _) (by omega)) trivial ?_
      refine AK.nil ?_
      refine AK.block_normal ?_
      refine AK.then_ (hK8 _ ?_)
      refine AK.region ?_
      refine AK.val _ (Yl.add rfl rfl (by omega)) trivial rfl ?_
      refine AK.val _ (Yl.move rfl) trivial rfl ?_
      refine AK.nil ?_
      refine AK.then_ (hK5 _ _ ((x.1 + 1, f1)) ⟨hr2, by dsimp only; omega⟩ (by dsimp only; omega) (.cons (rfl) (.cons rfl (.cons rfl (.cons rfl (.nil))))) (fun w hw => hw))
    · refine AK.exit ?_
      refine AK.then_exit ?_
      refine AK.then_exit ?_
      refine AK.block_exit ?_
      refine AK.then_ (hK3 _ ?_)
      refine AK.seq (fun _ hK10 => ?_)
      refine AK.region ?_
      refine AK.val _ (Yl.move rfl) trivial rfl ?_
      refine AK.call co43 rfl (fun w hw => s_canonI w mv0 (rhoL n ρ) (RdI.ownE 1 hw rfl (rhoL_length n ρ).symm (by have e : x.1 = n := (by omega); rw [e]; simp)) (by rw [rhoL_length]; exact hn)) trivial rfl ?_
      rintro r o rfl
      refine AK.val _ (Yl.assign rfl) trivial rfl ?_
      refine AK.nil ?_
      refine AK.then_ (hK10 _ ?_)
      refine AK.ret ?_
      refine AK.ret1 rfl rfl (fun w hw => ⟨_, _, _, ?_, rfl, Ret.of (hw.pick [0, 2] (by decide) rfl rfl)⟩)
      exact ⟨x.2, hr1, rfl, by rw [rhoL_length]; rfl⟩

set_option maxRecDepth 100000 in
theorem s_disc (w : World) (n : Int) : CallS Try.prog 35 [.int .i64 n] w (fun r o => o = [row r 3 1 (discB n).length ((discB n).map (Value.int .i64))]) := by
  refine spec_of Try.func35 rfl (Nat.le_of_ble_eq_true rfl) ?_
  refine AK.seq (fun _ hK1 => ?_)
  refine AK.region ?_
  refine AK.val _ (Yl.assign rfl) trivial rfl ?_
  refine AK.nil ?_
  refine AK.then_ (hK1 _ ?_)
  refine AK.seq (fun _ hK2 => ?_)
  refine AK.seq (fun _ hK3 => ?_)
  refine AK.region ?_
  refine AK.val _ (Yl.move rfl) trivial rfl ?_
  refine AK.val _ (Yl.lss rfl rfl) trivial rfl ?_
  refine AK.val _ (Yl.move rfl) trivial rfl ?_
  refine AK.splitB (g := 7) rfl (fun hg_1_2 => ?_) (fun hg_1_2 => ?_)
  · have hg_1_2' := hg_1_2
    try simp only [decide_eq_true_eq, decide_eq_false_iff_not, Bool.not_eq_true', Bool.not_eq_false', Bool.not_not, ne_eq, Decidable.not_not, Int.not_lt, Int.not_le, beq_iff_eq, bne_iff_ne, Bool.and_eq_true, Bool.or_eq_true, Bool.or_eq_false_iff, Bool.not_false, Bool.not_true, reduceCtorEq, not_true_eq_false, not_false_eq_true] at hg_1_2'
    refine AK.pass rfl rfl (hg_1_2) rfl ?_
    refine AK.pass rfl rfl (hg_1_2) rfl ?_
    refine AK.val _ (Yl.pickT rfl (hg_1_2) rfl) trivial rfl ?_
    refine AK.nil ?_
    refine AK.then_ (hK3 _ ?_)
    refine AK.cond_t rfl (rfl) ?_
    refine AK.seq (fun _ hK4 => ?_)
    refine AK.region ?_
    refine AK.val _ (Yl.assign rfl) trivial rfl ?_
    refine AK.nil ?_
    refine AK.then_ (hK4 _ ?_)
    refine AK.ret ?_
    refine AK.then_ret ?_
    refine AK.ghost 3 1 ?_
    refine AK.ret1 rfl rfl (fun w hw => ⟨_, _, ?_, rfl, Ret.of (hw.pick [0] (by decide) rfl rfl)⟩)
    have e : discB n = [] := by unfold discB; rw [if_neg (by omega)]
    rw [e]; rfl
  · have hg_1_2' := hg_1_2
    try simp only [decide_eq_true_eq, decide_eq_false_iff_not, Bool.not_eq_true', Bool.not_eq_false', Bool.not_not, ne_eq, Decidable.not_not, Int.not_lt, Int.not_le, beq_iff_eq, bne_iff_ne, Bool.and_eq_true, Bool.or_eq_true, Bool.or_eq_false_iff, Bool.not_false, Bool.not_true, reduceCtorEq, not_true_eq_false, not_false_eq_true] at hg_1_2'
    refine AK.val _ (Yl.move rfl) ⟨_, rfl, congrArg (fun b => some (Value.bool b)) hg_1_2⟩ rfl ?_
    refine AK.val _ (Yl.gtr rfl rfl) ⟨_, rfl, congrArg (fun b => some (Value.bool b)) hg_1_2⟩ rfl ?_
    refine AK.val _ (Yl.pickF rfl (hg_1_2) rfl) trivial rfl ?_
    refine AK.nil ?_
    refine AK.then_ (hK3 _ ?_)
    refine AK.condD rfl (fun hc0 => ?_) (fun hc0 => ?_)
    · refine AK.seq (fun _ hK5 => ?_)
      refine AK.region ?_
      refine AK.val _ (Yl.assign rfl) trivial rfl ?_
      refine AK.nil ?_
      refine AK.then_ (hK5 _ ?_)
      refine AK.ret ?_
      refine AK.then_ret ?_
      refine AK.ghost 3 1 ?_
      refine AK.ret1 rfl rfl (fun w hw => ⟨_, _, ?_, rfl, Ret.of (hw.pick [0] (by decide) rfl rfl)⟩)
      have e : discB n = [] := by unfold discB; rw [if_neg (by omega)]
      rw [e]; rfl
    · refine AK.skip ?_
      refine AK.then_ (hK2 _ ?_)
      refine AK.seq (fun _ hK6 => ?_)
      refine AK.region ?_
      refine AK.val _ (Yl.move rfl) trivial rfl ?_
      refine AK.make1Z sl22 el3 rfl rfl rfl (by omega) (by omega) (by omega) trivial rfl (fun mv0 => ?_)
      refine AK.val _ (Yl.assign rfl) trivial rfl ?_
      refine AK.nil ?_
      refine AK.then_ (hK6 _ ?_)
      refine AK.seq (fun _ hK7 => ?_)
      refine AK.seq (fun _ hK8 => ?_)
      refine AK.region ?_
      refine AK.val _ (Yl.move rfl) trivial rfl ?_
      refine AK.val _ (Yl.move rfl) trivial rfl ?_
      refine AK.nil ?_
      refine AK.then_ (hK8 _ ?_)
      refine AK.block ?_
      refine AK.loopS (X := Nat) [3, 13] (fun k => [(14, .int .i64 (k : Int))]) (fun k => [row mv0 3 1 n.toNat ((idl k ++ List.replicate (n.toNat - k) 0).map (Value.int .i64))]) (fun k => k ≤ n.toNat) (fun k => n.toNat - k) (0) ?_ ?_ ?_ ?_
      · exact Nat.zero_le _
      · exact .cons (rfl) (.nil)
      · exact fun w hw => by simpa [idl] using hw
      · intro k hg0 _ hK9
        refine AK.seq (fun _ hK10 => ?_)
        refine AK.region ?_
        refine AK.val _ (Yl.lss rfl rfl) trivial rfl ?_
        refine AK.nil ?_
        refine AK.then_ (hK10 _ ?_)
        refine AK.seq (fun _ hK11 => ?_)
        refine AK.condD rfl (fun hc1 => ?_) (fun hc1 => ?_)
        · refine AK.skip ?_
          refine AK.then_ (hK11 _ ?_)
          refine AK.seq (fun _ hK12 => ?_)
          refine AK.block ?_
          refine AK.seq (fun _ hK13 => ?_)
          refine AK.region ?_
          refine AK.val _ (Yl.move rfl) trivial rfl ?_
          refine AK.val _ (Yl.assign rfl) trivial rfl ?_
          refine AK.nil ?_
          refine AK.then_ (hK13 _ ?_)
          refine AK.region ?_
          refine AK.val _ (Yl.move rfl) trivial rfl ?_
          refine AK.val _ (Yl.move rfl) trivial rfl ?_
          refine AK.val _ (Yl.move rfl) trivial rfl ?_
          first | refine AK.val _ (Yl.idxN sl22 rfl rfl (by first | exact .arg ‹_› | exact .own 0 rfl | exact .own 1 rfl | exact .own 2 rfl | exact .own 3 rfl | exact .own 4 rfl | exact .own 5 rfl | exact .own 6 rfl | exact .own 7 rfl | exact .own 8 rfl | assumption) (by decide) (by omega)) trivial rfl ?_ | refine AK.val _ (Yl.idx sl22 rfl rfl (by first | exact .arg ‹_› | exact .own 0 rfl | exact .own 1 rfl | exact .own 2 rfl | exact .own 3 rfl | exact .own 4 rfl | exact .own 5 rfl | exact .own 6 rfl | exact .own 7 rfl | exact .own 8 rfl | assumption) (by decide) (by omega)) trivial rfl ?_
          refine AK.store1e 0 rfl sz3 rfl rfl rfl rfl (by omega) (cs' := ((idl (k + 1) ++ List.replicate (n.toNat - (k + 1)) 0).map (Value.int .i64))) (by rw [idl_succ]; exact fill_set (Value.int .i64) (idl k) 0 _ n.toNat k (idl_length k) (by omega)) trivial ?_
          refine AK.nil ?_
          refine AK.block_normal ?_
          refine AK.then_ (hK12 _ ?_)
          refine AK.region ?_
          refine AK.val _ (Yl.add rfl rfl (by omega)) trivial rfl ?_
          refine AK.val _ (Yl.move rfl) trivial rfl ?_
          refine AK.nil ?_
          refine AK.then_ (hK9 _ _ (k + 1) (by omega) (by omega) (.cons (rfl) (.cons rfl (.cons rfl (.nil)))) (fun w hw => hw))
        · refine AK.exit ?_
          refine AK.then_exit ?_
          refine AK.then_exit ?_
          refine AK.block_exit ?_
          refine AK.then_ (hK7 _ ?_)
          refine AK.seq (fun _ hK14 => ?_)
          refine AK.region ?_
          refine AK.val _ (Yl.move rfl) trivial rfl ?_
          refine AK.val _ (Yl.assign rfl) trivial rfl ?_
          refine AK.nil ?_
          refine AK.then_ (hK14 _ ?_)
          refine AK.ret ?_
          refine AK.ret1 rfl rfl (fun w hw => ⟨_, _, ?_, rfl, Ret.of (hw.pick [0] (by decide) rfl rfl)⟩)
          have hk : k = n.toNat := by omega
          subst hk
          have e : discB n = idl n.toNat := by unfold discB; rw [if_pos (by omega)]
          rw [e, idl_length]
          simp

set_option maxRecDepth 100000 in
theorem s_triv (w : World) (n : Int) : CallS Try.prog 36 [.int .i64 n] w (fun r o => o = [row r 3 1 (trivB n).length ((trivB n).map (Value.int .i64))]) := by
  refine spec_of Try.func36 rfl (Nat.le_of_ble_eq_true rfl) ?_
  refine AK.seq (fun _ hK1 => ?_)
  refine AK.region ?_
  refine AK.val _ (Yl.assign rfl) trivial rfl ?_
  refine AK.nil ?_
  refine AK.then_ (hK1 _ ?_)
  refine AK.seq (fun _ hK2 => ?_)
  refine AK.seq (fun _ hK3 => ?_)
  refine AK.region ?_
  refine AK.val _ (Yl.move rfl) trivial rfl ?_
  refine AK.val _ (Yl.lss rfl rfl) trivial rfl ?_
  refine AK.val _ (Yl.move rfl) trivial rfl ?_
  refine AK.splitB (g := 5) rfl (fun hg_1_2 => ?_) (fun hg_1_2 => ?_)
  · have hg_1_2' := hg_1_2
    try simp only [decide_eq_true_eq, decide_eq_false_iff_not, Bool.not_eq_true', Bool.not_eq_false', Bool.not_not, ne_eq, Decidable.not_not, Int.not_lt, Int.not_le, beq_iff_eq, bne_iff_ne, Bool.and_eq_true, Bool.or_eq_true, Bool.or_eq_false_iff, Bool.not_false, Bool.not_true, reduceCtorEq, not_true_eq_false, not_false_eq_true] at hg_1_2'
    refine AK.pass rfl rfl (hg_1_2) rfl ?_
    refine AK.pass rfl rfl (hg_1_2) rfl ?_
    refine AK.val _ (Yl.pickT rfl (hg_1_2) rfl) trivial rfl ?_
    refine AK.nil ?_
    refine AK.then_ (hK3 _ ?_)
    refine AK.cond_t rfl (rfl) ?_
    refine AK.seq (fun _ hK4 => ?_)
    refine AK.region ?_
    refine AK.val _ (Yl.assign rfl) trivial rfl ?_
    refine AK.nil ?_
    refine AK.then_ (hK4 _ ?_)
    refine AK.ret ?_
    refine AK.then_ret ?_
    refine AK.ghost 3 1 ?_
    refine AK.ret1 rfl rfl (fun w hw => ⟨_, _, ?_, rfl, Ret.of (hw.pick [0] (by decide) rfl rfl)⟩)
    have e : trivB n = [] := by unfold trivB; rw [if_neg (by omega)]
    rw [e]; rfl
  · have hg_1_2' := hg_1_2
    try simp only [decide_eq_true_eq, decide_eq_false_iff_not, Bool.not_eq_true', Bool.not_eq_false', Bool.not_not, ne_eq, Decidable.not_not, Int.not_lt, Int.not_le, beq_iff_eq, bne_iff_ne, Bool.and_eq_true, Bool.or_eq_true, Bool.or_eq_false_iff, Bool.not_false, Bool.not_true, reduceCtorEq, not_true_eq_false, not_false_eq_true] at hg_1_2'
    refine AK.val _ (Yl.move rfl) ⟨_, rfl, congrArg (fun b => some (Value.bool b)) hg_1_2⟩ rfl ?_
    refine AK.val _ (Yl.gtr rfl rfl) ⟨_, rfl, congrArg (fun b => some (Value.bool b)) hg_1_2⟩ rfl ?_
    refine AK.val _ (Yl.pickF rfl (hg_1_2) rfl) trivial rfl ?_
    refine AK.nil ?_
    refine AK.then_ (hK3 _ ?_)
    refine AK.condD rfl (fun hc0 => ?_) (fun hc0 => ?_)
    · refine AK.seq (fun _ hK5 => ?_)
      refine AK.region ?_
      refine AK.val _ (Yl.assign rfl) trivial rfl ?_
      refine AK.nil ?_
      refine AK.then_ (hK5 _ ?_)
      refine AK.ret ?_
      refine AK.then_ret ?_
      refine AK.ghost 3 1 ?_
      refine AK.ret1 rfl rfl (fun w hw => ⟨_, _, ?_, rfl, Ret.of (hw.pick [0] (by decide) rfl rfl)⟩)
      have e : trivB n = [] := by unfold trivB; rw [if_neg (by omega)]
      rw [e]; rfl
    · refine AK.skip ?_
      refine AK.then_ (hK2 _ ?_)
      refine AK.seq (fun _ hK6 => ?_)
      refine AK.region ?_
      refine AK.val _ (Yl.move rfl) trivial rfl ?_
      refine AK.make1Z sl22 el3 rfl rfl rfl (by omega) (by omega) (by omega) trivial rfl (fun mv0 => ?_)
      refine AK.val _ (Yl.assign rfl) trivial rfl ?_
      refine AK.nil ?_
      refine AK.then_ (hK6 _ ?_)
      refine AK.ret ?_
      refine AK.ret1 rfl rfl (fun w hw => ⟨_, _, ?_, rfl, Ret.of (hw.pick [0] (by decide) rfl rfl)⟩)
      have e : trivB n = List.replicate n.toNat 0 := by unfold trivB; rw [if_pos (by omega)]
      rw [e]
      simp

set_option maxRecDepth 100000 in
theorem s_newforest (w : World) (n : Int) : CallS Try.prog 44 [.int .i64 n] w (fun r o => o = [row r 3 1 (discB n).length ((discB n).map (Value.int .i64))]) := by
  refine spec_of Try.func44 rfl (Nat.le_of_ble_eq_true rfl) ?_
  refine AK.seq (fun _ hK1 => ?_)
  refine AK.region ?_
  refine AK.val _ (Yl.assign rfl) trivial rfl ?_
  refine AK.nil ?_
  refine AK.then_ (hK1 _ ?_)
  refine AK.seq (fun _ hK2 => ?_)
  refine AK.region ?_
  refine AK.val _ (Yl.move rfl) trivial rfl ?_
  refine AK.call co35 rfl (fun w hw => s_disc w n) trivial rfl ?_
  rintro r o rfl
  refine AK.val _ (Yl.assign rfl) trivial rfl ?_
  refine AK.nil ?_
  refine AK.then_ (hK2 _ ?_)
  refine AK.ret ?_
  refine AK.ret1 rfl rfl (fun w hw => ⟨_, _, ?_, rfl, Ret.of (hw.pick [0] (by decide) rfl rfl)⟩)
  rfl

set_option maxRecDepth 100000 in
theorem s_from (w : World) (n : Int) (v : Value) (ps : List (Int × Int)) (h : RdP w v ps) : CallS Try.prog 26 [.int .i64 n, v] w (fun r o => o = [row r 3 1 (fromB n ps).length ((fromB n ps).map (Value.int .i64))]) := by
  unfold RdP at h
  have hmx := Rd.le h
  refine spec_of Try.func26 rfl (Nat.le_of_ble_eq_true rfl) ?_
  refine AK.seq (fun _ hK1 => ?_)
  refine AK.region ?_
  refine AK.val _ (Yl.assign rfl) trivial rfl ?_
  refine AK.nil ?_
  refine AK.then_ (hK1 _ ?_)
  refine AK.seq (fun _ hK2 => ?_)
  refine AK.seq (fun _ hK3 => ?_)
  refine AK.region ?_
  refine AK.val _ (Yl.move rfl) trivial rfl ?_
  refine AK.val _ (Yl.lss rfl rfl) trivial rfl ?_
  refine AK.val _ (Yl.move rfl) trivial rfl ?_
  refine AK.splitB (g := 10) rfl (fun hg_1_2 => ?_) (fun hg_1_2 => ?_)
  · have hg_1_2' := hg_1_2
    try simp only [decide_eq_true_eq, decide_eq_false_iff_not, Bool.not_eq_true', Bool.not_eq_false', Bool.not_not, ne_eq, Decidable.not_not, Int.not_lt, Int.not_le, beq_iff_eq, bne_iff_ne, Bool.and_eq_true, Bool.or_eq_true, Bool.or_eq_false_iff, Bool.not_false, Bool.not_true, reduceCtorEq, not_true_eq_false, not_false_eq_true] at hg_1_2'
    refine AK.pass rfl rfl (hg_1_2) rfl ?_
    refine AK.pass rfl rfl (hg_1_2) rfl ?_
    refine AK.val _ (Yl.pickT rfl (hg_1_2) rfl) trivial rfl ?_
    refine AK.nil ?_
    refine AK.then_ (hK3 _ ?_)
    refine AK.cond_t rfl (rfl) ?_
    refine AK.seq (fun _ hK4 => ?_)
    refine AK.region ?_
    refine AK.val _ (Yl.assign rfl) trivial rfl ?_
    refine AK.nil ?_
    refine AK.then_ (hK4 _ ?_)
    refine AK.ret ?_
    refine AK.then_ret ?_
    refine AK.ghost 3 1 ?_
    refine AK.ret1 rfl rfl (fun w hw => ⟨_, _, ?_, rfl, Ret.of (hw.pick [0] (by decide) rfl rfl)⟩)
    have e : fromB n ps = [] := by unfold fromB; rw [if_neg (fun h => by have := h.1; omega)]
    rw [e]; rfl
  · have hg_1_2' := hg_1_2
    try simp only [decide_eq_true_eq, decide_eq_false_iff_not, Bool.not_eq_true', Bool.not_eq_false', Bool.not_not, ne_eq, Decidable.not_not, Int.not_lt, Int.not_le, beq_iff_eq, bne_iff_ne, Bool.and_eq_true, Bool.or_eq_true, Bool.or_eq_false_iff, Bool.not_false, Bool.not_true, reduceCtorEq, not_true_eq_false, not_false_eq_true] at hg_1_2'
    refine AK.val _ (Yl.move rfl) ⟨_, rfl, congrArg (fun b => some (Value.bool b)) hg_1_2⟩ rfl ?_
    refine AK.val _ (Yl.gtr rfl rfl) ⟨_, rfl, congrArg (fun b => some (Value.bool b)) hg_1_2⟩ rfl ?_
    refine AK.val _ (Yl.pickF rfl (hg_1_2) rfl) trivial rfl ?_
    refine AK.nil ?_
    refine AK.then_ (hK3 _ ?_)
    refine AK.condD rfl (fun hc0 => ?_) (fun hc0 => ?_)
    · refine AK.seq (fun _ hK5 => ?_)
      refine AK.region ?_
      refine AK.val _ (Yl.assign rfl) trivial rfl ?_
      refine AK.nil ?_
      refine AK.then_ (hK5 _ ?_)
      refine AK.ret ?_
      refine AK.then_ret ?_
      refine AK.ghost 3 1 ?_
      refine AK.ret1 rfl rfl (fun w hw => ⟨_, _, ?_, rfl, Ret.of (hw.pick [0] (by decide) rfl rfl)⟩)
      have e : fromB n ps = [] := by unfold fromB; rw [if_neg (fun h => by have := h.1; omega)]
      rw [e]; rfl
    · refine AK.skip ?_
      refine AK.then_ (hK2 _ ?_)
      refine AK.seq (fun _ hK6 => ?_)
      refine AK.region ?_
      refine AK.val _ (Yl.move rfl) trivial rfl ?_
      refine AK.call co44 rfl (fun w hw => s_newforest w n) trivial rfl ?_
      rintro fv o rfl
      refine AK.val _ (Yl.assign rfl) trivial rfl ?_
      refine AK.nil ?_
      refine AK.then_ (hK6 _ ?_)
      refine AK.seq (fun _ hK7 => ?_)
      refine AK.seq (fun _ hK8 => ?_)
      refine AK.region ?_
      refine AK.val _ (Yl.move rfl) trivial rfl ?_
      refine AK.val _ (Yl.lenR sl31 rfl (by first | exact .arg ‹_› | exact .own 0 rfl | exact .own 1 rfl | exact .own 2 rfl | exact .own 3 rfl | exact .own 4 rfl | exact .own 5 rfl | exact .own 6 rfl | exact .own 7 rfl | exact .own 8 rfl | assumption)) trivial rfl ?_
      refine AK.val _ (Yl.move rfl) trivial rfl ?_
      refine AK.nil ?_
      refine AK.then_ (hK8 _ ?_)
      refine AK.block ?_
      refine AK.loopS (X := Nat × List Int) [0, 5, 16, 17] (fun x => [(18, .int .i64 (x.1 : Int))]) (fun x => [row fv 3 1 n.toNat (x.2.map (Value.int .i64))]) (fun x => x.1 ≤ ps.length ∧ (∀ p ∈ ps.take x.1, okp n p) ∧ Rep (ufs (ps.take x.1)) x.2 n.toNat) (fun x => ps.length - x.1) ((0, idl n.toNat)) ?_ ?_ ?_ ?_
      · exact ⟨Nat.zero_le _, by simp, rep_id _⟩
      · exact .cons (rfl) (.nil)
      · exact fun w hw => by have e : discB n = idl n.toNat := (by unfold discB; rw [if_pos (by omega)]); rw [e, idl_length] at hw; exact hw
      · intro x hg0 _ hK9
        obtain ⟨hk1, hok, hr1⟩ := hg0
        have hl := hr1.1
        refine AK.seq (fun _ hK10 => ?_)
        refine AK.region ?_
        refine AK.val _ (Yl.lss rfl rfl) trivial rfl ?_
        refine AK.nil ?_
        refine AK.then_ (hK10 _ ?_)
        refine AK.seq (fun _ hK11 => ?_)
        refine AK.condD rfl (fun hc1 => ?_) (fun hc1 => ?_)
        · refine AK.skip ?_
          refine AK.then_ (hK11 _ ?_)
          refine AK.seq (fun _ hK12 => ?_)
          refine AK.block ?_
          refine AK.seq (fun _ hK13 => ?_)
          refine AK.region ?_
          first | refine AK.val _ (Yl.idxN sl31 rfl rfl (by first | exact .arg ‹_› | exact .own 0 rfl | exact .own 1 rfl | exact .own 2 rfl | exact .own 3 rfl | exact .own 4 rfl | exact .own 5 rfl | exact .own 6 rfl | exact .own 7 rfl | exact .own 8 rfl | assumption) (by decide) (by omega)) trivial rfl ?_ | refine AK.val _ (Yl.idx sl31 rfl rfl (by first | exact .arg ‹_› | exact .own 0 rfl | exact .own 1 rfl | exact .own 2 rfl | exact .own 3 rfl | exact .own 4 rfl | exact .own 5 rfl | exact .own 6 rfl | exact .own 7 rfl | exact .own 8 rfl | assumption) (by decide) (by omega)) trivial rfl ?_
          refine AK.val _ (Yl.loadP ag42 rfl (by first | exact .arg ‹_› | exact .own 0 rfl | exact .own 1 rfl | exact .own 2 rfl | exact .own 3 rfl | exact .own 4 rfl | exact .own 5 rfl | exact .own 6 rfl | exact .own 7 rfl | exact .own 8 rfl | assumption) (by omega)) trivial rfl ?_
          refine AK.alloc el42 rfl rfl trivial rfl (fun bx7 => ?_)
          refine AK.storeBox 1 rfl sz42 rfl rfl rfl rfl (by intro u hu; simp [pv, Value.cells] at hu; rcases hu with rfl | rfl <;> rfl) (Nat.le_of_ble_eq_true rfl) rfl trivial ?_
          refine AK.nil ?_
          refine AK.then_ (hK13 _ ?_)
          refine AK.seq (fun _ hK14 => ?_)
          refine AK.seq (fun _ hK15 => ?_)
          refine AK.region ?_
          refine AK.val _ (Yl.idxArr 0 ar42 rfl rfl (by decide)) trivial rfl ?_
          refine AK.val _ (Yl.loadBox on3 rfl (by first | exact .own 0 rfl | exact .own 1 rfl | exact .own 2 rfl | exact .own 3 rfl) rfl) trivial rfl ?_
          refine AK.val _ (Yl.idxArr 1 ar42 rfl rfl (by decide)) trivial rfl ?_
          refine AK.val _ (Yl.loadBox on3 rfl (by first | exact .own 0 rfl | exact .own 1 rfl | exact .own 2 rfl | exact .own 3 rfl) rfl) trivial rfl ?_
          refine AK.val _ (Yl.min rfl rfl) trivial rfl ?_
          refine AK.val _ (Yl.lss rfl rfl) trivial rfl ?_
          refine AK.val _ (Yl.move rfl) trivial rfl ?_
          refine AK.splitB (g := 28) rfl (fun hg_7_6 => ?_) (fun hg_7_6 => ?_)
          · have hg_7_6' := hg_7_6
            try simp only [decide_eq_true_eq, decide_eq_false_iff_not, Bool.not_eq_true', Bool.not_eq_false', Bool.not_not, ne_eq, Decidable.not_not, Int.not_lt, Int.not_le, beq_iff_eq, bne_iff_ne, Bool.and_eq_true, Bool.or_eq_true, Bool.or_eq_false_iff, Bool.not_false, Bool.not_true, reduceCtorEq, not_true_eq_false, not_false_eq_true] at hg_7_6'
            refine AK.pass rfl rfl (hg_7_6) rfl ?_
            refine AK.pass rfl rfl (hg_7_6) rfl ?_
            refine AK.pass rfl rfl (hg_7_6) rfl ?_
            refine AK.pass rfl rfl (hg_7_6) rfl ?_
            refine AK.pass rfl rfl (hg_7_6) rfl ?_
            refine AK.pass rfl rfl (hg_7_6) rfl ?_
            refine AK.pass rfl rfl (hg_7_6) rfl ?_
            refine AK.val _ (Yl.pickT rfl (hg_7_6) rfl) trivial rfl ?_
            refine AK.nil ?_
            refine AK.then_ (hK15 _ ?_)
            refine AK.cond_t rfl (rfl) ?_
            refine AK.seq (fun _ hK16 => ?_)
            refine AK.region ?_
            refine AK.val _ (Yl.assign rfl) trivial rfl ?_
            refine AK.nil ?_
            refine AK.then_ (hK16 _ ?_)
            refine AK.ret ?_
            refine AK.then_ret ?_
            refine AK.block_ret ?_
            refine AK.then_ret ?_
            refine AK.then_ret ?_
            refine AK.block_ret ?_
            refine AK.then_ret ?_
            refine AK.ghost 3 1 ?_
            refine AK.ret1 rfl rfl (fun w hw => ⟨_, _, ?_, rfl, Ret.of (hw.pick [2] (by decide) rfl rfl)⟩)
            have e : fromB n ps = [] := by unfold fromB; rw [if_neg (fun h => by have := h.2 _ (mem_getD (0, 0) (show x.1 < ps.length by omega)); unfold okp at this; omega)]
            rw [e]; rfl
          · have hg_7_6' := hg_7_6
            try simp only [decide_eq_true_eq, decide_eq_false_iff_not, Bool.not_eq_true', Bool.not_eq_false', Bool.not_not, ne_eq, Decidable.not_not, Int.not_lt, Int.not_le, beq_iff_eq, bne_iff_ne, Bool.and_eq_true, Bool.or_eq_true, Bool.or_eq_false_iff, Bool.not_false, Bool.not_true, reduceCtorEq, not_true_eq_false, not_false_eq_true] at hg_7_6'
            refine AK.val _ (Yl.idxArr 0 ar42 rfl rfl (by decide)) ⟨_, rfl, congrArg (fun b => some (Value.bool b)) hg_7_6⟩ rfl ?_
            refine AK.val _ (Yl.loadBox on3 rfl (by first | exact .own 0 rfl | exact .own 1 rfl | exact .own 2 rfl | exact .own 3 rfl) rfl) ⟨_, rfl, congrArg (fun b => some (Value.bool b)) hg_7_6⟩ rfl ?_
            refine AK.val _ (Yl.idxArr 1 ar42 rfl rfl (by decide)) ⟨_, rfl, congrArg (fun b => some (Value.bool b)) hg_7_6⟩ rfl ?_
            refine AK.val _ (Yl.loadBox on3 rfl (by first | exact .own 0 rfl | exact .own 1 rfl | exact .own 2 rfl | exact .own 3 rfl) rfl) ⟨_, rfl, congrArg (fun b => some (Value.bool b)) hg_7_6⟩ rfl ?_
            refine AK.val _ (Yl.max rfl rfl) ⟨_, rfl, congrArg (fun b => some (Value.bool b)) hg_7_6⟩ rfl ?_
            refine AK.val _ (Yl.move rfl) ⟨_, rfl, congrArg (fun b => some (Value.bool b)) hg_7_6⟩ rfl ?_
            refine AK.val _ (Yl.geq rfl rfl) ⟨_, rfl, congrArg (fun b => some (Value.bool b)) hg_7_6⟩ rfl ?_
            refine AK.val _ (Yl.pickF rfl (hg_7_6) rfl) trivial rfl ?_
            refine AK.nil ?_
            refine AK.then_ (hK15 _ ?_)
            refine AK.condD rfl (fun hc2 => ?_) (fun hc2 => ?_)
            · refine AK.seq (fun _ hK17 => ?_)
              refine AK.region ?_
              refine AK.val _ (Yl.assign rfl) trivial rfl ?_
              refine AK.nil ?_
              refine AK.then_ (hK17 _ ?_)
              refine AK.ret ?_
              refine AK.then_ret ?_
              refine AK.block_ret ?_
              refine AK.then_ret ?_
              refine AK.then_ret ?_
              refine AK.block_ret ?_
              refine AK.then_ret ?_
              refine AK.ghost 3 1 ?_
              refine AK.ret1 rfl rfl (fun w hw => ⟨_, _, ?_, rfl, Ret.of (hw.pick [2] (by decide) rfl rfl)⟩)
              have e : fromB n ps = [] := by unfold fromB; rw [if_neg (fun h => by have := h.2 _ (mem_getD (0, 0) (show x.1 < ps.length by omega)); unfold okp at this; omega)]
              rw [e]; rfl
            · refine AK.skip ?_
              refine AK.then_ (hK14 _ ?_)
              refine AK.region ?_
              refine AK.val _ (Yl.move rfl) trivial rfl ?_
              refine AK.val _ (Yl.idxArr 0 ar42 rfl rfl (by decide)) trivial rfl ?_
              refine AK.val _ (Yl.loadBox on3 rfl (by first | exact .own 0 rfl | exact .own 1 rfl | exact .own 2 rfl | exact .own 3 rfl) rfl) trivial rfl ?_
              refine AK.val _ (Yl.idxArr 1 ar42 rfl rfl (by decide)) trivial rfl ?_
              refine AK.val _ (Yl.loadBox on3 rfl (by first | exact .own 0 rfl | exact .own 1 rfl | exact .own 2 rfl | exact .own 3 rfl) rfl) trivial rfl ?_
              refine AK.callM 0 rfl co45 rfl (fun w F hw hA => s_union w F fv x.2 (ufs (ps.take x.1)) n.toNat (ps.getD x.1 (0, 0)).1 (ps.getD x.1 (0, 0)).2 hA hr1 (by omega) (by omega) (by omega)) trivial rfl ?_
              rintro r A o ⟨f1, hr2, rfl, rfl, rfl⟩
              refine AK.nil ?_
              refine AK.block_normal ?_
              refine AK.then_ (hK12 _ ?_)
              refine AK.region ?_
              refine AK.val _ (Yl.add rfl rfl (by omega)) trivial rfl ?_
              refine AK.val _ (Yl.move rfl) trivial rfl ?_
              refine AK.nil ?_
              refine AK.then_ (hK9 _ _ ((x.1 + 1, f1)) ⟨by dsimp only; omega, all_take_succ (0, 0) (by omega) hok (by unfold okp; omega), by dsimp only; rw [take_snocD (0, 0) ps x.1 (by omega), ufs_snoc]; exact hr2⟩ (by dsimp only; omega) (.cons (rfl) (.cons rfl (.cons rfl (.cons rfl (.cons rfl (.nil)))))) (fun w hw => hw.pick [0] (by decide) rfl rfl))
        · refine AK.exit ?_
          refine AK.then_exit ?_
          refine AK.then_exit ?_
          refine AK.block_exit ?_
          refine AK.then_ (hK7 _ ?_)
          refine AK.seq (fun _ hK18 => ?_)
          refine AK.region ?_
          refine AK.val _ (Yl.move rfl) trivial rfl ?_
          refine AK.callM 0 rfl co46 rfl (fun w F hw hA => s_fpart w F fv x.2 (ufs (ps.take x.1)) n.toNat hA hr1 (by omega)) trivial rfl ?_
          rintro r A o ⟨f1, hr2, rfl, rfl⟩
          refine AK.val _ (Yl.assign rfl) trivial rfl ?_
          refine AK.nil ?_
          refine AK.then_ (hK18 _ ?_)
          refine AK.ret ?_
          refine AK.ret1 rfl rfl (fun w hw => ⟨_, _, ?_, rfl, Ret.of (hw.pick [1] (by decide) rfl rfl)⟩)
          have hk2 : x.1 = ps.length := by omega
          rw [hk2, List.take_length] at hok
          have e : fromB n ps = canon (rhoL n.toNat (ufs ps)) := by unfold fromB; rw [if_pos ⟨by omega, hok⟩]
          rw [e, canon_length, rhoL_length, hk2, List.take_length]; rfl

set_option maxRecDepth 100000 in
theorem s_may (w : World) (n : Int) (v : Value) (ps : List (Int × Int)) (h : RdP w v ps) : CallS Try.prog 27 [.int .i64 n, v] w (fun r o => r = .bool (decide (mayP n ps)) ∧ o = []) := by
  unfold RdP at h
  have hmx := Rd.le h
  refine spec_of Try.func27 rfl (Nat.le_of_ble_eq_true rfl) ?_
  refine AK.seq (fun _ hK1 => ?_)
  refine AK.region ?_
  refine AK.val _ (Yl.assign rfl) trivial rfl ?_
  refine AK.nil ?_
  refine AK.then_ (hK1 _ ?_)
  refine AK.seq (fun _ hK2 => ?_)
  refine AK.seq (fun _ hK3 => ?_)
  refine AK.region ?_
  refine AK.val _ (Yl.move rfl) trivial rfl ?_
  refine AK.val _ (Yl.lss rfl rfl) trivial rfl ?_
  refine AK.val _ (Yl.move rfl) trivial rfl ?_
  refine AK.splitB (g := 9) rfl (fun hg_1_2 => ?_) (fun hg_1_2 => ?_)
  · have hg_1_2' := hg_1_2
    try simp only [decide_eq_true_eq, decide_eq_false_iff_not, Bool.not_eq_true', Bool.not_eq_false', Bool.not_not, ne_eq, Decidable.not_not, Int.not_lt, Int.not_le, beq_iff_eq, bne_iff_ne, Bool.and_eq_true, Bool.or_eq_true, Bool.or_eq_false_iff, Bool.not_false, Bool.not_true, reduceCtorEq, not_true_eq_false, not_false_eq_true] at hg_1_2'
    refine AK.pass rfl rfl (hg_1_2) rfl ?_
    refine AK.pass rfl rfl (hg_1_2) rfl ?_
    refine AK.val _ (Yl.pickT rfl (hg_1_2) rfl) trivial rfl ?_
    refine AK.nil ?_
    refine AK.then_ (hK3 _ ?_)
    refine AK.cond_t rfl (rfl) ?_
    refine AK.seq (fun _ hK4 => ?_)
    refine AK.region ?_
    refine AK.val _ (Yl.assign rfl) trivial rfl ?_
    refine AK.nil ?_
    refine AK.then_ (hK4 _ ?_)
    refine AK.ret ?_
    refine AK.then_ret ?_
    refine AK.ret1 rfl rfl (fun w hw => ⟨_, _, ?_, rfl, Ret.of (hw.pick [] (by decide) rfl rfl)⟩)
    exact ⟨congrArg Value.bool (decide_eq_false (fun h => by have := h.1; omega)).symm, rfl⟩
  · have hg_1_2' := hg_1_2
    try simp only [decide_eq_true_eq, decide_eq_false_iff_not, Bool.not_eq_true', Bool.not_eq_false', Bool.not_not, ne_eq, Decidable.not_not, Int.not_lt, Int.not_le, beq_iff_eq, bne_iff_ne, Bool.and_eq_true, Bool.or_eq_true, Bool.or_eq_false_iff, Bool.not_false, Bool.not_true, reduceCtorEq, not_true_eq_false, not_false_eq_true] at hg_1_2'
    refine AK.val _ (Yl.move rfl) ⟨_, rfl, congrArg (fun b => some (Value.bool b)) hg_1_2⟩ rfl ?_
    refine AK.val _ (Yl.gtr rfl rfl) ⟨_, rfl, congrArg (fun b => some (Value.bool b)) hg_1_2⟩ rfl ?_
    refine AK.val _ (Yl.pickF rfl (hg_1_2) rfl) trivial rfl ?_
    refine AK.nil ?_
    refine AK.then_ (hK3 _ ?_)
    refine AK.condD rfl (fun hc0 => ?_) (fun hc0 => ?_)
    · refine AK.seq (fun _ hK5 => ?_)
      refine AK.region ?_
      refine AK.val _ (Yl.assign rfl) trivial rfl ?_
      refine AK.nil ?_
      refine AK.then_ (hK5 _ ?_)
      refine AK.ret ?_
      refine AK.then_ret ?_
      refine AK.ret1 rfl rfl (fun w hw => ⟨_, _, ?_, rfl, Ret.of (hw.pick [] (by decide) rfl rfl)⟩)
      exact ⟨congrArg Value.bool (decide_eq_false (fun h => by have := h.1; omega)).symm, rfl⟩
    · refine AK.skip ?_
      refine AK.then_ (hK2 _ ?_)
      refine AK.seq (fun _ hK6 => ?_)
      refine AK.seq (fun _ hK7 => ?_)
      refine AK.region ?_
      refine AK.val _ (Yl.move rfl) trivial rfl ?_
      refine AK.val _ (Yl.lenR sl31 rfl (by first | exact .arg ‹_› | exact .own 0 rfl | exact .own 1 rfl | exact .own 2 rfl | exact .own 3 rfl | exact .own 4 rfl | exact .own 5 rfl | exact .own 6 rfl | exact .own 7 rfl | exact .own 8 rfl | assumption)) trivial rfl ?_
      refine AK.val _ (Yl.move rfl) trivial rfl ?_
      refine AK.nil ?_
      refine AK.then_ (hK7 _ ?_)
      refine AK.block ?_
      refine AK.loopS (X := Nat) [0, 13, 14] (fun k => [(15, .int .i64 (k : Int))]) (fun k => []) (fun k => k ≤ ps.length ∧ ∀ p ∈ ps.take k, okp n p) (fun k => ps.length - k) (0) ?_ ?_ ?_ ?_
      · exact ⟨Nat.zero_le _, by simp⟩
      · exact .cons (rfl) (.nil)
      · exact fun w hw => hw
      · intro k hg0 _ hK8
        obtain ⟨hk1, hok⟩ := hg0
        refine AK.seq (fun _ hK9 => ?_)
        refine AK.region ?_
        refine AK.val _ (Yl.lss rfl rfl) trivial rfl ?_
        refine AK.nil ?_
        refine AK.then_ (hK9 _ ?_)
        refine AK.seq (fun _ hK10 => ?_)
        refine AK.condD rfl (fun hc1 => ?_) (fun hc1 => ?_)
        · refine AK.skip ?_
          refine AK.then_ (hK10 _ ?_)
          refine AK.seq (fun _ hK11 => ?_)
          refine AK.block ?_
          refine AK.seq (fun _ hK12 => ?_)
          refine AK.region ?_
          first | refine AK.val _ (Yl.idxN sl31 rfl rfl (by first | exact .arg ‹_› | exact .own 0 rfl | exact .own 1 rfl | exact .own 2 rfl | exact .own 3 rfl | exact .own 4 rfl | exact .own 5 rfl | exact .own 6 rfl | exact .own 7 rfl | exact .own 8 rfl | assumption) (by decide) (by omega)) trivial rfl ?_ | refine AK.val _ (Yl.idx sl31 rfl rfl (by first | exact .arg ‹_› | exact .own 0 rfl | exact .own 1 rfl | exact .own 2 rfl | exact .own 3 rfl | exact .own 4 rfl | exact .own 5 rfl | exact .own 6 rfl | exact .own 7 rfl | exact .own 8 rfl | assumption) (by decide) (by omega)) trivial rfl ?_
          refine AK.val _ (Yl.loadP ag42 rfl (by first | exact .arg ‹_› | exact .own 0 rfl | exact .own 1 rfl | exact .own 2 rfl | exact .own 3 rfl | exact .own 4 rfl | exact .own 5 rfl | exact .own 6 rfl | exact .own 7 rfl | exact .own 8 rfl | assumption) (by omega)) trivial rfl ?_
          refine AK.alloc el42 rfl rfl trivial rfl (fun bx6 => ?_)
          refine AK.storeBox 0 rfl sz42 rfl rfl rfl rfl (by intro u hu; simp [pv, Value.cells] at hu; rcases hu with rfl | rfl <;> rfl) (Nat.le_of_ble_eq_true rfl) rfl trivial ?_
          refine AK.nil ?_
          refine AK.then_ (hK12 _ ?_)
          refine AK.seq (fun _ hK13 => ?_)
          refine AK.region ?_
          refine AK.val _ (Yl.idxArr 0 ar42 rfl rfl (by decide)) trivial rfl ?_
          refine AK.val _ (Yl.loadBox on3 rfl (by first | exact .own 0 rfl | exact .own 1 rfl | exact .own 2 rfl | exact .own 3 rfl) rfl) trivial rfl ?_
          refine AK.val _ (Yl.lss rfl rfl) trivial rfl ?_
          refine AK.val _ (Yl.move rfl) trivial rfl ?_
          refine AK.splitB (g := 22) rfl (fun hg_6_3 => ?_) (fun hg_6_3 => ?_)
          · have hg_6_3' := hg_6_3
            try simp only [decide_eq_true_eq, decide_eq_false_iff_not, Bool.not_eq_true', Bool.not_eq_false', Bool.not_not, ne_eq, Decidable.not_not, Int.not_lt, Int.not_le, beq_iff_eq, bne_iff_ne, Bool.and_eq_true, Bool.or_eq_true, Bool.or_eq_false_iff, Bool.not_false, Bool.not_true, reduceCtorEq, not_true_eq_false, not_false_eq_true] at hg_6_3'
            refine AK.pass rfl rfl (hg_6_3) rfl ?_
            refine AK.pass rfl rfl (hg_6_3) rfl ?_
            refine AK.pass rfl rfl (hg_6_3) rfl ?_
            refine AK.pass rfl rfl (hg_6_3) rfl ?_
            refine AK.val _ (Yl.pickT rfl (hg_6_3) rfl) trivial rfl ?_
            refine AK.val _ (Yl.move rfl) trivial rfl ?_
            refine AK.pass rfl rfl rfl rfl ?_
            refine AK.pass rfl rfl rfl rfl ?_
            refine AK.pass rfl rfl rfl rfl ?_
            refine AK.val _ (Yl.pickT rfl (rfl) rfl) trivial rfl ?_
            refine AK.val _ (Yl.move rfl) trivial rfl ?_
            refine AK.pass rfl rfl rfl rfl ?_
            refine AK.pass rfl rfl rfl rfl ?_
            refine AK.pass rfl rfl rfl rfl ?_
            refine AK.pass rfl rfl rfl rfl ?_
            refine AK.val _ (Yl.pickT rfl (rfl) rfl) trivial rfl ?_
            refine AK.nil ?_
            refine AK.then_ (hK13 _ ?_)
            refine AK.cond_t rfl (rfl) ?_
            refine AK.seq (fun _ hK14 => ?_)
            refine AK.region ?_
            refine AK.val _ (Yl.assign rfl) trivial rfl ?_
            refine AK.nil ?_
            refine AK.then_ (hK14 _ ?_)
            refine AK.ret ?_
            refine AK.block_ret ?_
            refine AK.then_ret ?_
            refine AK.then_ret ?_
            refine AK.block_ret ?_
            refine AK.then_ret ?_
            refine AK.ret1 rfl rfl (fun w hw => ⟨_, _, ?_, rfl, Ret.of (hw.pick [] (by decide) rfl rfl)⟩)
            exact ⟨congrArg Value.bool (decide_eq_false (fun h => by have := h.2 _ (mem_getD (0, 0) (show k < ps.length by omega)); unfold okp at this; omega)).symm, rfl⟩
          · have hg_6_3' := hg_6_3
            try simp only [decide_eq_true_eq, decide_eq_false_iff_not, Bool.not_eq_true', Bool.not_eq_false', Bool.not_not, ne_eq, Decidable.not_not, Int.not_lt, Int.not_le, beq_iff_eq, bne_iff_ne, Bool.and_eq_true, Bool.or_eq_true, Bool.or_eq_false_iff, Bool.not_false, Bool.not_true, reduceCtorEq, not_true_eq_false, not_false_eq_true] at hg_6_3'
            refine AK.val _ (Yl.idxArr 0 ar42 rfl rfl (by decide)) ⟨_, rfl, congrArg (fun b => some (Value.bool b)) hg_6_3⟩ rfl ?_
            refine AK.val _ (Yl.loadBox on3 rfl (by first | exact .own 0 rfl | exact .own 1 rfl | exact .own 2 rfl | exact .own 3 rfl) rfl) ⟨_, rfl, congrArg (fun b => some (Value.bool b)) hg_6_3⟩ rfl ?_
            refine AK.val _ (Yl.move rfl) ⟨_, rfl, congrArg (fun b => some (Value.bool b)) hg_6_3⟩ rfl ?_
            refine AK.val _ (Yl.geq rfl rfl) ⟨_, rfl, congrArg (fun b => some (Value.bool b)) hg_6_3⟩ rfl ?_
            refine AK.val _ (Yl.pickF rfl (hg_6_3) rfl) trivial rfl ?_
            refine AK.val _ (Yl.move rfl) trivial rfl ?_
            refine AK.splitB (g := 28) rfl (fun hg_6_9 => ?_) (fun hg_6_9 => ?_)
            · have hg_6_9' := hg_6_9
              try simp only [decide_eq_true_eq, decide_eq_false_iff_not, Bool.not_eq_true', Bool.not_eq_false', Bool.not_not, ne_eq, Decidable.not_not, Int.not_lt, Int.not_le, beq_iff_eq, bne_iff_ne, Bool.and_eq_true, Bool.or_eq_true, Bool.or_eq_false_iff, Bool.not_false, Bool.not_true, reduceCtorEq, not_true_eq_false, not_false_eq_true] at hg_6_9'
              refine AK.pass rfl rfl (hg_6_9) rfl ?_
              refine AK.pass rfl rfl (hg_6_9) rfl ?_
              refine AK.pass rfl rfl (hg_6_9) rfl ?_
              refine AK.val _ (Yl.pickT rfl (hg_6_9) rfl) trivial rfl ?_
              refine AK.val _ (Yl.move rfl) trivial rfl ?_
              refine AK.pass rfl rfl rfl rfl ?_
              refine AK.pass rfl rfl rfl rfl ?_
              refine AK.pass rfl rfl rfl rfl ?_
              refine AK.pass rfl rfl rfl rfl ?_
              refine AK.val _ (Yl.pickT rfl (rfl) rfl) trivial rfl ?_
              refine AK.nil ?_
              refine AK.then_ (hK13 _ ?_)
              refine AK.cond_t rfl (rfl) ?_
              refine AK.seq (fun _ hK15 => ?_)
              refine AK.region ?_
              refine AK.val _ (Yl.assign rfl) trivial rfl ?_
              refine AK.nil ?_
              refine AK.then_ (hK15 _ ?_)
              refine AK.ret ?_
              refine AK.block_ret ?_
              refine AK.then_ret ?_
              refine AK.then_ret ?_
              refine AK.block_ret ?_
              refine AK.then_ret ?_
              refine AK.ret1 rfl rfl (fun w hw => ⟨_, _, ?_, rfl, Ret.of (hw.pick [] (by decide) rfl rfl)⟩)
              exact ⟨congrArg Value.bool (decide_eq_false (fun h => by have := h.2 _ (mem_getD (0, 0) (show k < ps.length by omega)); unfold okp at this; omega)).symm, rfl⟩
            · have hg_6_9' := hg_6_9
              try simp only [decide_eq_true_eq, decide_eq_false_iff_not, Bool.not_eq_true', Bool.not_eq_false', Bool.not_not, ne_eq, Decidable.not_not, Int.not_lt, Int.not_le, beq_iff_eq, bne_iff_ne, Bool.and_eq_true, Bool.or_eq_true, Bool.or_eq_false_iff, Bool.not_false, Bool.not_true, reduceCtorEq, not_true_eq_false, not_false_eq_true] at hg_6_9'
              refine AK.val _ (Yl.idxArr 1 ar42 rfl rfl (by decide)) ⟨_, rfl, congrArg (fun b => some (Value.bool b)) hg_6_9⟩ rfl ?_
              refine AK.val _ (Yl.loadBox on3 rfl (by first | exact .own 0 rfl | exact .own 1 rfl | exact .own 2 rfl | exact .own 3 rfl) rfl) ⟨_, rfl, congrArg (fun b => some (Value.bool b)) hg_6_9⟩ rfl ?_
              refine AK.val _ (Yl.lss rfl rfl) ⟨_, rfl, congrArg (fun b => some (Value.bool b)) hg_6_9⟩ rfl ?_
              refine AK.val _ (Yl.pickF rfl (hg_6_9) rfl) trivial rfl ?_
              refine AK.val _ (Yl.move rfl) trivial rfl ?_
              refine AK.splitB (g := 33) rfl (fun hg_6_14 => ?_) (fun hg_6_14 => ?_)
              · have hg_6_14' := hg_6_14
                try simp only [decide_eq_true_eq, decide_eq_false_iff_not, Bool.not_eq_true', Bool.not_eq_false', Bool.not_not, ne_eq, Decidable.not_not, Int.not_lt, Int.not_le, beq_iff_eq, bne_iff_ne, Bool.and_eq_true, Bool.or_eq_true, Bool.or_eq_false_iff, Bool.not_false, Bool.not_true, reduceCtorEq, not_true_eq_false, not_false_eq_true] at hg_6_14'
                refine AK.pass rfl rfl (hg_6_14) rfl ?_
                refine AK.pass rfl rfl (hg_6_14) rfl ?_
                refine AK.pass rfl rfl (hg_6_14) rfl ?_
                refine AK.pass rfl rfl (hg_6_14) rfl ?_
                refine AK.val _ (Yl.pickT rfl (hg_6_14) rfl) trivial rfl ?_
                refine AK.nil ?_
                refine AK.then_ (hK13 _ ?_)
                refine AK.cond_t rfl (rfl) ?_
                refine AK.seq (fun _ hK16 => ?_)
                refine AK.region ?_
                refine AK.val _ (Yl.assign rfl) trivial rfl ?_
                refine AK.nil ?_
                refine AK.then_ (hK16 _ ?_)
                refine AK.ret ?_
                refine AK.block_ret ?_
                refine AK.then_ret ?_
                refine AK.then_ret ?_
                refine AK.block_ret ?_
                refine AK.then_ret ?_
                refine AK.ret1 rfl rfl (fun w hw => ⟨_, _, ?_, rfl, Ret.of (hw.pick [] (by decide) rfl rfl)⟩)
                exact ⟨congrArg Value.bool (decide_eq_false (fun h => by have := h.2 _ (mem_getD (0, 0) (show k < ps.length by omega)); unfold okp at this; omega)).symm, rfl⟩
              · have hg_6_14' := hg_6_14
                try simp only [decide_eq_true_eq, decide_eq_false_iff_not, Bool.not_eq_true', Bool.not_eq_false', Bool.not_not, ne_eq, Decidable.not_not, Int.not_lt, Int.not_le, beq_iff_eq, bne_iff_ne, Bool.and_eq_true, Bool.or_eq_true, Bool.or_eq_false_iff, Bool.not_false, Bool.not_true, reduceCtorEq, not_true_eq_false, not_false_eq_true] at hg_6_14'
                refine AK.val _ (Yl.idxArr 1 ar42 rfl rfl (by decide)) ⟨_, rfl, congrArg (fun b => some (Value.bool b)) hg_6_14⟩ rfl ?_
                refine AK.val _ (Yl.loadBox on3 rfl (by first | exact .own 0 rfl | exact .own 1 rfl | exact .own 2 rfl | exact .own 3 rfl) rfl) ⟨_, rfl, congrArg (fun b => some (Value.bool b)) hg_6_14⟩ rfl ?_
                refine AK.val _ (Yl.move rfl) ⟨_, rfl, congrArg (fun b => some (Value.bool b)) hg_6_14⟩ rfl ?_
                refine AK.val _ (Yl.geq rfl rfl) ⟨_, rfl, congrArg (fun b => some (Value.bool b)) hg_6_14⟩ rfl ?_
                refine AK.val _ (Yl.pickF rfl (hg_6_14) rfl) trivial rfl ?_
                refine AK.nil ?_
                refine AK.then_ (hK13 _ ?_)
                refine AK.condD rfl (fun hc2 => ?_) (fun hc2 => ?_)
                · refine AK.seq (fun _ hK17 => ?_)
                  refine AK.region ?_
                  refine AK.val _ (Yl.assign rfl) trivial rfl ?_
                  refine AK.nil ?_
                  refine AK.then_ (hK17 _ ?_)
                  refine AK.ret ?_
                  refine AK.block_ret ?_
                  refine AK.then_ret ?_
                  refine AK.then_ret ?_
                  refine AK.block_ret ?_
                  refine AK.then_ret ?_
                  refine AK.ret1 rfl rfl (fun w hw => ⟨_, _, ?_, rfl, Ret.of (hw.pick [] (by decide) rfl rfl)⟩)
                  exact ⟨congrArg Value.bool (decide_eq_false (fun h => by have := h.2 _ (mem_getD (0, 0) (show k < ps.length by omega)); unfold okp at this; omega)).symm, rfl⟩
                · refine AK.skip ?_
                  refine AK.block_normal ?_
                  refine AK.then_ (hK11 _ ?_)
                  refine AK.region ?_
                  refine AK.val _ (Yl.add rfl rfl (by omega)) trivial rfl ?_
                  refine AK.val _ (Yl.move rfl) trivial rfl ?_
                  refine AK.nil ?_
                  refine AK.then_ (hK8 _ _ (k + 1) ⟨by omega, all_take_succ (0, 0) (by omega) hok (by unfold okp; omega)⟩ (by omega) (.cons (rfl) (.cons rfl (.cons rfl (.cons rfl (.nil))))) (fun w hw => hw.pick [] (by decide) rfl rfl))
        · refine AK.exit ?_
          refine AK.then_exit ?_
          refine AK.then_exit ?_
          refine AK.block_exit ?_
          refine AK.then_ (hK6 _ ?_)
          refine AK.seq (fun _ hK18 => ?_)
          refine AK.region ?_
          refine AK.val _ (Yl.assign rfl) trivial rfl ?_
          refine AK.nil ?_
          refine AK.then_ (hK18 _ ?_)
          refine AK.ret ?_
          refine AK.ret1 rfl rfl (fun w hw => ⟨_, _, ?_, rfl, Ret.of (hw.pick [] (by decide) rfl rfl)⟩)
          have hk2 : k = ps.length := (by omega)
          rw [hk2, List.take_length] at hok
          exact ⟨congrArg Value.bool (decide_eq_true (⟨by omega, hok⟩ : mayP n ps)).symm, rfl⟩

set_option maxRecDepth 100000 in
theorem s_refdisc (w : World) (n : Int) (hn : 0 ≤ n ∧ n ≤ 4096) : CallS Try.prog 37 [.int .i64 n] w (fun r o => o = [row r 3 1 n.toNat ((idl n.toNat).map (Value.int .i64))]) := by
  refine spec_of Try.func37 rfl (Nat.le_of_ble_eq_true rfl) ?_
  refine AK.seq (fun _ hK1 => ?_)
  refine AK.region ?_
  refine AK.val _ (Yl.assign rfl) trivial rfl ?_
  refine AK.nil ?_
  refine AK.then_ (hK1 _ ?_)
  refine AK.seq (fun _ hK2 => ?_)
  refine AK.region ?_
  refine AK.val _ (Yl.move rfl) trivial rfl ?_
  refine AK.make1Z sl22 el3 rfl rfl rfl (by omega) (by omega) (by omega) trivial rfl (fun mv0 => ?_)
  refine AK.val _ (Yl.assign rfl) trivial rfl ?_
  refine AK.nil ?_
  refine AK.then_ (hK2 _ ?_)
  refine AK.seq (fun _ hK3 => ?_)
  refine AK.seq (fun _ hK4 => ?_)
  refine AK.region ?_
  refine AK.val _ (Yl.move rfl) trivial rfl ?_
  refine AK.val _ (Yl.lenR sl22 rfl (by first | exact .arg ‹_› | exact .own 0 rfl | exact .own 1 rfl | exact .own 2 rfl | exact .own 3 rfl | exact .own 4 rfl | exact .own 5 rfl | exact .own 6 rfl | exact .own 7 rfl | exact .own 8 rfl | assumption)) trivial rfl ?_
  refine AK.val _ (Yl.move rfl) trivial rfl ?_
  refine AK.nil ?_
  refine AK.then_ (hK4 _ ?_)
  refine AK.block ?_
  refine AK.loopS (X := Nat) [3, 8] (fun k => [(9, .int .i64 (k : Int))]) (fun k => [row mv0 3 1 n.toNat ((idl k ++ List.replicate (n.toNat - k) 0).map (Value.int .i64))]) (fun k => k ≤ n.toNat) (fun k => n.toNat - k) (0) ?_ ?_ ?_ ?_
  · exact Nat.zero_le _
  · exact .cons (rfl) (.nil)
  · exact fun w hw => by simpa [idl] using hw
  · intro k hg0 _ hK5
    refine AK.seq (fun _ hK6 => ?_)
    refine AK.region ?_
    refine AK.val _ (Yl.lss rfl rfl) trivial rfl ?_
    refine AK.nil ?_
    refine AK.then_ (hK6 _ ?_)
    refine AK.seq (fun _ hK7 => ?_)
    refine AK.condD rfl (fun hc0 => ?_) (fun hc0 => ?_)
    · refine AK.skip ?_
      refine AK.then_ (hK7 _ ?_)
      refine AK.seq (fun _ hK8 => ?_)
      refine AK.block ?_
      refine AK.seq (fun _ hK9 => ?_)
      refine AK.region ?_
      refine AK.val _ (Yl.move rfl) trivial rfl ?_
      refine AK.val _ (Yl.assign rfl) trivial rfl ?_
      refine AK.nil ?_
      refine AK.then_ (hK9 _ ?_)
      refine AK.region ?_
      refine AK.val _ (Yl.move rfl) trivial rfl ?_
      refine AK.val _ (Yl.move rfl) trivial rfl ?_
      refine AK.val _ (Yl.move rfl) trivial rfl ?_
      first | refine AK.val _ (Yl.idxN sl22 rfl rfl (by first | exact .arg ‹_› | exact .own 0 rfl | exact .own 1 rfl | exact .own 2 rfl | exact .own 3 rfl | exact .own 4 rfl | exact .own 5 rfl | exact .own 6 rfl | exact .own 7 rfl | exact .own 8 rfl | assumption) (by decide) (by omega)) trivial rfl ?_ | refine AK.val _ (Yl.idx sl22 rfl rfl (by first | exact .arg ‹_› | exact .own 0 rfl | exact .own 1 rfl | exact .own 2 rfl | exact .own 3 rfl | exact .own 4 rfl | exact .own 5 rfl | exact .own 6 rfl | exact .own 7 rfl | exact .own 8 rfl | assumption) (by decide) (by omega)) trivial rfl ?_
      refine AK.store1e 0 rfl sz3 rfl rfl rfl rfl (by omega) (cs' := ((idl (k + 1) ++ List.replicate (n.toNat - (k + 1)) 0).map (Value.int .i64))) (by rw [idl_succ]; exact fill_set (Value.int .i64) (idl k) 0 _ n.toNat k (idl_length k) (by omega)) trivial ?_
      refine AK.nil ?_
      refine AK.block_normal ?_
      refine AK.then_ (hK8 _ ?_)
      refine AK.region ?_
      refine AK.val _ (Yl.add rfl rfl (by omega)) trivial rfl ?_
      refine AK.val _ (Yl.move rfl) trivial rfl ?_
      refine AK.nil ?_
      refine AK.then_ (hK5 _ _ (k + 1) (by omega) (by omega) (.cons (rfl) (.cons rfl (.cons rfl (.nil)))) (fun w hw => hw))
    · refine AK.exit ?_
      refine AK.then_exit ?_
      refine AK.then_exit ?_
      refine AK.block_exit ?_
      refine AK.then_ (hK3 _ ?_)
      refine AK.seq (fun _ hK10 => ?_)
      refine AK.region ?_
      refine AK.val _ (Yl.move rfl) trivial rfl ?_
      refine AK.val _ (Yl.assign rfl) trivial rfl ?_
      refine AK.nil ?_
      refine AK.then_ (hK10 _ ?_)
      refine AK.ret ?_
      refine AK.ret1 rfl rfl (fun w hw => ⟨_, _, ?_, rfl, Ret.of (hw.pick [0] (by decide) rfl rfl)⟩)
      have hk : k = n.toNat := (by omega)
      subst hk
      simp

set_option maxRecDepth 100000 in
theorem s_merge (w : World) (F : Nat → Prop) (v : Value) (xs : List Int) (n : Nat) (i j : Int) (hA : (row v 3 1 n (xs.map (Value.int .i64))).holds w F) (hl : xs.length = n) (hi : 0 ≤ i ∧ i < n) (hj : 0 ≤ j ∧ j < n) (hn : n ≤ 4096) : CallM Try.prog 47 [v, .int .i64 i, .int .i64 j] w F (fun r A o => r = .tuple #[] ∧ A = row v 3 1 n ((mergeL xs i.toNat j.toNat).map (Value.int .i64)) ∧ o = []) := by
  refine specM_of Try.func47 rfl (Nat.le_of_ble_eq_true rfl) hA ?_
  refine AK.seq (fun _ hK1 => ?_)
  refine AK.quiet mixed (by kernel_rfl) ?_
  refine QK.val _ (Yl.move rfl) trivial rfl ?_
  refine QK.val _ (Yl.move rfl) trivial rfl ?_
  first | refine QK.val _ (Yl.idxN sl22 rfl rfl (by first | exact .arg ‹_› | exact .own 0 rfl | exact .own 1 rfl | exact .own 2 rfl | exact .own 3 rfl | exact .own 4 rfl | exact .own 5 rfl | exact .own 6 rfl | exact .own 7 rfl | exact .own 8 rfl | assumption) (by decide) (by omega)) trivial rfl ?_ | refine QK.val _ (Yl.idx sl22 rfl rfl (by first | exact .arg ‹_› | exact .own 0 rfl | exact .own 1 rfl | exact .own 2 rfl | exact .own 3 rfl | exact .own 4 rfl | exact .own 5 rfl | exact .own 6 rfl | exact .own 7 rfl | exact .own 8 rfl | assumption) (by decide) (by omega)) trivial rfl ?_
  refine QK.val _ (Yl.loadI on3 rfl (by first | exact .arg ‹_› | exact .own 0 rfl | exact .own 1 rfl | exact .own 2 rfl | exact .own 3 rfl | exact .own 4 rfl | exact .own 5 rfl | exact .own 6 rfl | exact .own 7 rfl | exact .own 8 rfl | assumption) (by omega)) trivial rfl ?_
  refine QK.val _ (Yl.move rfl) trivial rfl ?_
  refine QK.val _ (Yl.move rfl) trivial rfl ?_
  first | refine QK.val _ (Yl.idxN sl22 rfl rfl (by first | exact .arg ‹_› | exact .own 0 rfl | exact .own 1 rfl | exact .own 2 rfl | exact .own 3 rfl | exact .own 4 rfl | exact .own 5 rfl | exact .own 6 rfl | exact .own 7 rfl | exact .own 8 rfl | assumption) (by decide) (by omega)) trivial rfl ?_ | refine QK.val _ (Yl.idx sl22 rfl rfl (by first | exact .arg ‹_› | exact .own 0 rfl | exact .own 1 rfl | exact .own 2 rfl | exact .own 3 rfl | exact .own 4 rfl | exact .own 5 rfl | exact .own 6 rfl | exact .own 7 rfl | exact .own 8 rfl | assumption) (by decide) (by omega)) trivial rfl ?_
  refine QK.val _ (Yl.loadI on3 rfl (by first | exact .arg ‹_› | exact .own 0 rfl | exact .own 1 rfl | exact .own 2 rfl | exact .own 3 rfl | exact .own 4 rfl | exact .own 5 rfl | exact .own 6 rfl | exact .own 7 rfl | exact .own 8 rfl | assumption) (by omega)) trivial rfl ?_
  refine QK.val _ (Yl.assign rfl) trivial rfl ?_
  refine QK.val _ (Yl.assign rfl) trivial rfl ?_
  refine QK.nil (QK.fin ?_)
  refine AK.then_ (hK1 _ ?_)
  refine AK.seq (fun _ hK2 => ?_)
  refine AK.region ?_
  refine AK.val _ (Yl.move rfl) trivial rfl ?_
  refine AK.val _ (Yl.lenR sl22 rfl (by first | exact .arg ‹_› | exact .own 0 rfl | exact .own 1 rfl | exact .own 2 rfl | exact .own 3 rfl | exact .own 4 rfl | exact .own 5 rfl | exact .own 6 rfl | exact .own 7 rfl | exact .own 8 rfl | assumption)) trivial rfl ?_
  refine AK.val _ (Yl.move rfl) trivial rfl ?_
  refine AK.nil ?_
  refine AK.then_ (hK2 _ ?_)
  refine AK.block ?_
  refine AK.loopS (X := Nat) [0, 6, 7, 18] (fun k => [(19, .int .i64 (k : Int))]) (fun k => [row v 3 1 n ((mrgK xs i.toNat j.toNat k).map (Value.int .i64))]) (fun k => k ≤ n) (fun k => n - k) (0) ?_ ?_ ?_ ?_
  · exact Nat.zero_le _
  · exact .cons (rfl) (.nil)
  · exact fun w hw => by rw [mrgK_zero]; exact hw
  · intro k hg0 _ hK3
    have hml := mrgK_length xs i.toNat j.toNat k
    refine AK.seq (fun _ hK4 => ?_)
    refine AK.region ?_
    refine AK.val _ (Yl.lss rfl rfl) trivial rfl ?_
    refine AK.nil ?_
    refine AK.then_ (hK4 _ ?_)
    refine AK.seq (fun _ hK5 => ?_)
    refine AK.condD rfl (fun hc0 => ?_) (fun hc0 => ?_)
    · refine AK.skip ?_
      refine AK.then_ (hK5 _ ?_)
      refine AK.seq (fun _ hK6 => ?_)
      refine AK.block ?_
      refine AK.seq (fun _ hK7 => ?_)
      refine AK.region ?_
      refine AK.val _ (Yl.move rfl) trivial rfl ?_
      refine AK.val _ (Yl.assign rfl) trivial rfl ?_
      refine AK.nil ?_
      refine AK.then_ (hK7 _ ?_)
      refine AK.seq (fun _ hK8 => ?_)
      refine AK.region ?_
      refine AK.val _ (Yl.move rfl) trivial rfl ?_
      refine AK.val _ (Yl.move rfl) trivial rfl ?_
      first | refine AK.val _ (Yl.idxN sl22 rfl rfl (by first | exact .arg ‹_› | exact .own 0 rfl | exact .own 1 rfl | exact .own 2 rfl | exact .own 3 rfl | exact .own 4 rfl | exact .own 5 rfl | exact .own 6 rfl | exact .own 7 rfl | exact .own 8 rfl | assumption) (by decide) (by omega)) trivial rfl ?_ | refine AK.val _ (Yl.idx sl22 rfl rfl (by first | exact .arg ‹_› | exact .own 0 rfl | exact .own 1 rfl | exact .own 2 rfl | exact .own 3 rfl | exact .own 4 rfl | exact .own 5 rfl | exact .own 6 rfl | exact .own 7 rfl | exact .own 8 rfl | assumption) (by decide) (by omega)) trivial rfl ?_
      refine AK.val _ (Yl.loadI on3 rfl (by first | exact .arg ‹_› | exact .own 0 rfl | exact .own 1 rfl | exact .own 2 rfl | exact .own 3 rfl | exact .own 4 rfl | exact .own 5 rfl | exact .own 6 rfl | exact .own 7 rfl | exact .own 8 rfl | assumption) (by omega)) trivial rfl ?_
      refine AK.val _ (Yl.move rfl) trivial rfl ?_
      refine AK.val _ (Yl.eql rfl rfl) trivial rfl ?_
      refine AK.nil ?_
      refine AK.then_ (hK8 _ ?_)
      refine AK.condD rfl (fun hc1 => ?_) (fun hc1 => ?_)
      · refine AK.region ?_
        refine AK.val _ (Yl.move rfl) trivial rfl ?_
        refine AK.val _ (Yl.move rfl) trivial rfl ?_
        refine AK.val _ (Yl.move rfl) trivial rfl ?_
        first | refine AK.val _ (Yl.idxN sl22 rfl rfl (by first | exact .arg ‹_› | exact .own 0 rfl | exact .own 1 rfl | exact .own 2 rfl | exact .own 3 rfl | exact .own 4 rfl | exact .own 5 rfl | exact .own 6 rfl | exact .own 7 rfl | exact .own 8 rfl | assumption) (by decide) (by omega)) trivial rfl ?_ | refine AK.val _ (Yl.idx sl22 rfl rfl (by first | exact .arg ‹_› | exact .own 0 rfl | exact .own 1 rfl | exact .own 2 rfl | exact .own 3 rfl | exact .own 4 rfl | exact .own 5 rfl | exact .own 6 rfl | exact .own 7 rfl | exact .own 8 rfl | assumption) (by decide) (by omega)) trivial rfl ?_
        refine AK.store1e 0 rfl sz3 rfl rfl rfl rfl (by omega) (cs' := ((mrgK xs i.toNat j.toNat (k + 1)).map (Value.int .i64))) (by rw [mrgK_set (by omega) hc1]) trivial ?_
        refine AK.nil ?_
        refine AK.block_normal ?_
        refine AK.then_ (hK6 _ ?_)
        refine AK.region ?_
        refine AK.val _ (Yl.add rfl rfl (by omega)) trivial rfl ?_
        refine AK.val _ (Yl.move rfl) trivial rfl ?_
        refine AK.nil ?_
        refine AK.then_ (hK3 _ _ (k + 1) (by omega) (by omega) (.cons (rfl) (.cons rfl (.cons rfl (.cons rfl (.cons rfl (.nil)))))) (fun w hw => by first | exact hw | (rw [mrgK_skip (by omega) hc1]; exact hw)))
      · refine AK.skip ?_
        refine AK.block_normal ?_
        refine AK.then_ (hK6 _ ?_)
        refine AK.region ?_
        refine AK.val _ (Yl.add rfl rfl (by omega)) trivial rfl ?_
        refine AK.val _ (Yl.move rfl) trivial rfl ?_
        refine AK.nil ?_
        refine AK.then_ (hK3 _ _ (k + 1) (by omega) (by omega) (.cons (rfl) (.cons rfl (.cons rfl (.cons rfl (.cons rfl (.nil)))))) (fun w hw => by first | exact hw | (rw [mrgK_skip (by omega) hc1]; exact hw)))
    · refine AK.exit ?_
      refine AK.then_exit ?_
      refine AK.then_exit ?_
      refine AK.block_exit ?_
      refine AK.end0 rfl (fun w hw => ⟨_, _, _, ?_, rfl, Ret.of (hw.pick [0] (by decide) rfl rfl)⟩)
      have hk : k = n := (by omega)
      refine ⟨rfl, ?_, rfl⟩
      rw [hk, ← hl, mrgK_full]

set_option maxRecDepth 100000 in
theorem s_reffrom (w : World) (n : Int) (v : Value) (ps : List (Int × Int)) (h : RdP w v ps) (hm : mayP n ps) : CallS Try.prog 28 [.int .i64 n, v] w (fun r o => o = [row r 3 1 (fromB n ps).length ((fromB n ps).map (Value.int .i64))]) := by
  unfold RdP at h
  have hmx := Rd.le h
  have hn := hm.1
  refine spec_of Try.func28 rfl (Nat.le_of_ble_eq_true rfl) ?_
  refine AK.seq (fun _ hK1 => ?_)
  refine AK.region ?_
  refine AK.val _ (Yl.assign rfl) trivial rfl ?_
  refine AK.nil ?_
  refine AK.then_ (hK1 _ ?_)
  refine AK.seq (fun _ hK2 => ?_)
  refine AK.region ?_
  refine AK.val _ (Yl.move rfl) trivial rfl ?_
  refine AK.call co37 rfl (fun w hw => s_refdisc w n hn) trivial rfl ?_
  rintro fv o rfl
  refine AK.val _ (Yl.assign rfl) trivial rfl ?_
  refine AK.nil ?_
  refine AK.then_ (hK2 _ ?_)
  refine AK.seq (fun _ hK3 => ?_)
  refine AK.seq (fun _ hK4 => ?_)
  refine AK.region ?_
  refine AK.val _ (Yl.move rfl) trivial rfl ?_
  refine AK.val _ (Yl.lenR sl31 rfl (by first | exact .arg ‹_› | exact .own 0 rfl | exact .own 1 rfl | exact .own 2 rfl | exact .own 3 rfl | exact .own 4 rfl | exact .own 5 rfl | exact .own 6 rfl | exact .own 7 rfl | exact .own 8 rfl | assumption)) trivial rfl ?_
  refine AK.val _ (Yl.move rfl) trivial rfl ?_
  refine AK.nil ?_
  refine AK.then_ (hK4 _ ?_)
  refine AK.block ?_
  refine AK.loopS (X := Nat) [5, 10, 11] (fun k => [(12, .int .i64 (k : Int))]) (fun k => [row fv 3 1 n.toNat ((mfs n.toNat (ps.take k)).map (Value.int .i64))]) (fun k => k ≤ ps.length) (fun k => ps.length - k) (0) ?_ ?_ ?_ ?_
  · exact Nat.zero_le _
  · exact .cons (rfl) (.nil)
  · exact fun w hw => by simpa [mfs] using hw
  · intro k hg0 _ hK5
    have hok : k < ps.length → okp n (ps.getD k (0, 0)) := fun h => hm.2 _ (mem_getD (0, 0) h)
    unfold okp at hok
    refine AK.seq (fun _ hK6 => ?_)
    refine AK.region ?_
    refine AK.val _ (Yl.lss rfl rfl) trivial rfl ?_
    refine AK.nil ?_
    refine AK.then_ (hK6 _ ?_)
    refine AK.seq (fun _ hK7 => ?_)
    refine AK.condD rfl (fun hc0 => ?_) (fun hc0 => ?_)
    · refine AK.skip ?_
      refine AK.then_ (hK7 _ ?_)
      refine AK.seq (fun _ hK8 => ?_)
      refine AK.block ?_
      refine AK.seq (fun _ hK9 => ?_)
      refine AK.region ?_
      first | refine AK.val _ (Yl.idxN sl31 rfl rfl (by first | exact .arg ‹_› | exact .own 0 rfl | exact .own 1 rfl | exact .own 2 rfl | exact .own 3 rfl | exact .own 4 rfl | exact .own 5 rfl | exact .own 6 rfl | exact .own 7 rfl | exact .own 8 rfl | assumption) (by decide) (by omega)) trivial rfl ?_ | refine AK.val _ (Yl.idx sl31 rfl rfl (by first | exact .arg ‹_› | exact .own 0 rfl | exact .own 1 rfl | exact .own 2 rfl | exact .own 3 rfl | exact .own 4 rfl | exact .own 5 rfl | exact .own 6 rfl | exact .own 7 rfl | exact .own 8 rfl | assumption) (by decide) (by omega)) trivial rfl ?_
      refine AK.val _ (Yl.loadP ag42 rfl (by first | exact .arg ‹_› | exact .own 0 rfl | exact .own 1 rfl | exact .own 2 rfl | exact .own 3 rfl | exact .own 4 rfl | exact .own 5 rfl | exact .own 6 rfl | exact .own 7 rfl | exact .own 8 rfl | assumption) (by omega)) trivial rfl ?_
      refine AK.alloc el42 rfl rfl trivial rfl (fun bx7 => ?_)
      refine AK.storeBox 1 rfl sz42 rfl rfl rfl rfl (by intro u hu; simp [pv, Value.cells] at hu; rcases hu with rfl | rfl <;> rfl) (Nat.le_of_ble_eq_true rfl) rfl trivial ?_
      refine AK.nil ?_
      refine AK.then_ (hK9 _ ?_)
      refine AK.region ?_
      refine AK.val _ (Yl.move rfl) trivial rfl ?_
      refine AK.val _ (Yl.idxArr 0 ar42 rfl rfl (by decide)) trivial rfl ?_
      refine AK.val _ (Yl.loadBox on3 rfl (by first | exact .own 0 rfl | exact .own 1 rfl | exact .own 2 rfl | exact .own 3 rfl) rfl) trivial rfl ?_
      refine AK.val _ (Yl.idxArr 1 ar42 rfl rfl (by decide)) trivial rfl ?_
      refine AK.val _ (Yl.loadBox on3 rfl (by first | exact .own 0 rfl | exact .own 1 rfl | exact .own 2 rfl | exact .own 3 rfl) rfl) trivial rfl ?_
      refine AK.callM 0 rfl co47 rfl (fun w F hw hA => s_merge w F fv (mfs n.toNat (ps.take k)) n.toNat (ps.getD k (0, 0)).1 (ps.getD k (0, 0)).2 hA (mfs_length _ _) (by omega) (by omega) (by omega)) trivial rfl ?_
      rintro r A o ⟨rfl, rfl, rfl⟩
      refine AK.nil ?_
      refine AK.block_normal ?_
      refine AK.then_ (hK8 _ ?_)
      refine AK.region ?_
      refine AK.val _ (Yl.add rfl rfl (by omega)) trivial rfl ?_
      refine AK.val _ (Yl.move rfl) trivial rfl ?_
      refine AK.nil ?_
      refine AK.then_ (hK5 _ _ (k + 1) (by omega) (by omega) (.cons (rfl) (.cons rfl (.cons rfl (.cons rfl (.nil))))) (fun w hw => by rw [take_snocD (0, 0) ps k (by omega), mfs_snoc]; exact hw.pick [0] (by decide) rfl rfl))
    · refine AK.exit ?_
      refine AK.then_exit ?_
      refine AK.then_exit ?_
      refine AK.block_exit ?_
      refine AK.then_ (hK3 _ ?_)
      refine AK.seq (fun _ hK10 => ?_)
      refine AK.region ?_
      refine AK.val _ (Yl.move rfl) trivial rfl ?_
      refine AK.call co17 rfl (fun w hw => s_refcanon w fv (mfs n.toNat ps) (RdI.ownE 0 hw rfl (mfs_length _ _).symm (by have hk : k = ps.length := (by omega);  rw [hk, List.take_length]))) trivial rfl ?_
      rintro r o rfl
      refine AK.val _ (Yl.assign rfl) trivial rfl ?_
      refine AK.nil ?_
      refine AK.then_ (hK10 _ ?_)
      refine AK.ret ?_
      refine AK.ret1 rfl rfl (fun w hw => ⟨_, _, ?_, rfl, Ret.of (hw.pick [1] (by decide) rfl rfl)⟩)
      rw [fromB_ref hm]; rfl

set_option maxRecDepth 100000 in
theorem l_pairs (w : World) (n : Int) (v : Value) (ps : List (Int × Int)) (h : RdP w v ps) : CallS Try.prog 5 [.int .i64 n, v] w (fun r o => r = .bool true ∧ o = []) := by
  have h0 := h
  unfold RdP at h
  have hfl : (fromB n ps).length ≤ 4096 := fromB_le n ps
  refine spec_of Try.func5 rfl (Nat.le_of_ble_eq_true rfl) ?_
  refine AK.seq (fun _ hK1 => ?_)
  refine AK.region ?_
  refine AK.val _ (Yl.assign rfl) trivial rfl ?_
  refine AK.nil ?_
  refine AK.then_ (hK1 _ ?_)
  refine AK.seq (fun _ hK2 => ?_)
  refine AK.region ?_
  refine AK.val _ (Yl.move rfl) trivial rfl ?_
  refine AK.val _ (Yl.move rfl) trivial rfl ?_
  refine AK.call co26 rfl (fun w hw => s_from w n v ps (RdP.at h0 hw)) trivial rfl ?_
  rintro pv0 o rfl
  refine AK.val _ (Yl.assign rfl) trivial rfl ?_
  refine AK.nil ?_
  refine AK.then_ (hK2 _ ?_)
  refine AK.seq (fun _ hK3 => ?_)
  refine AK.seq (fun _ hK4 => ?_)
  refine AK.region ?_
  refine AK.val _ (Yl.move rfl) trivial rfl ?_
  refine AK.val _ (Yl.move rfl) trivial rfl ?_
  refine AK.call co27 rfl (fun w hw => s_may w n v ps (RdP.at h0 hw)) trivial rfl ?_
  rintro r o ⟨rfl, rfl⟩
  refine AK.val _ (Yl.not rfl) trivial rfl ?_
  refine AK.nil ?_
  refine AK.then_ (hK4 _ ?_)
  refine AK.condB rfl (fun hc0 => ?_) (fun hc0 => ?_)
  · refine AK.seq (fun _ hK5 => ?_)
    refine AK.region ?_
    refine AK.val _ (Yl.move rfl) trivial rfl ?_
    refine AK.val _ (Yl.lenR sl22 rfl (by first | exact .arg ‹_› | exact .own 0 rfl | exact .own 1 rfl | exact .own 2 rfl | exact .own 3 rfl | exact .own 4 rfl | exact .own 5 rfl | exact .own 6 rfl | exact .own 7 rfl | exact .own 8 rfl | assumption)) trivial rfl ?_
    refine AK.val _ (Yl.eql rfl rfl) trivial rfl ?_
    refine AK.val _ (Yl.move rfl) trivial rfl ?_
    refine AK.knownT (g := 16) rfl (by have e : fromB n ps = [] := (by unfold fromB; rw [if_neg (of_decide_eq_false hc0)]); rw [e]; rfl) (fun hg_3_3 => ?_)
    refine AK.call co20 rfl (fun w hw => s_awake w) ⟨_, rfl, congrArg (fun b => some (Value.bool b)) hg_3_3⟩ rfl ?_
    rintro r2 o2 ⟨rfl, rfl⟩
    refine AK.val _ (Yl.pickT rfl (hg_3_3) rfl) trivial rfl ?_
    refine AK.val _ (Yl.assign rfl) trivial rfl ?_
    refine AK.nil ?_
    refine AK.then_ (hK5 _ ?_)
    refine AK.ret ?_
    refine AK.then_ret ?_
    refine AK.ret1 rfl rfl (fun w hw => ⟨_, _, ?_, rfl, Ret.of (hw.pick [] (by decide) rfl rfl)⟩)
    exact ⟨rfl, rfl⟩
  · refine AK.skip ?_
    refine AK.then_ (hK3 _ ?_)
    refine AK.seq (fun _ hK6 => ?_)
    refine AK.seq (fun _ hK7 => ?_)
    refine AK.region ?_
    refine AK.val _ (Yl.move rfl) trivial rfl ?_
    refine AK.val _ (Yl.gtr rfl rfl) trivial rfl ?_
    refine AK.val _ (Yl.move rfl) trivial rfl ?_
    refine AK.splitB (g := 21) rfl (fun hg_4_2 => ?_) (fun hg_4_2 => ?_)
    · have hg_4_2' := hg_4_2
      try simp only [decide_eq_true_eq, decide_eq_false_iff_not, Bool.not_eq_true', Bool.not_eq_false', Bool.not_not, ne_eq, Decidable.not_not, Int.not_lt, Int.not_le, beq_iff_eq, bne_iff_ne, Bool.and_eq_true, Bool.or_eq_true, Bool.or_eq_false_iff, Bool.not_false, Bool.not_true, reduceCtorEq, not_true_eq_false, not_false_eq_true] at hg_4_2'
      refine AK.pass rfl rfl (hg_4_2) rfl ?_
      refine AK.pass rfl rfl (hg_4_2) rfl ?_
      refine AK.pass rfl rfl (hg_4_2) rfl ?_
      refine AK.val _ (Yl.pickT rfl (hg_4_2) rfl) trivial rfl ?_
      refine AK.nil ?_
      refine AK.then_ (hK7 _ ?_)
      refine AK.cond_t rfl (rfl) ?_
      refine AK.seq (fun _ hK8 => ?_)
      refine AK.region ?_
      refine AK.call co20 rfl (fun w hw => s_awake w) trivial rfl ?_
      rintro r2 o2 ⟨rfl, rfl⟩
      refine AK.val _ (Yl.assign rfl) trivial rfl ?_
      refine AK.nil ?_
      refine AK.then_ (hK8 _ ?_)
      refine AK.ret ?_
      refine AK.then_ret ?_
      refine AK.ret1 rfl rfl (fun w hw => ⟨_, _, ?_, rfl, Ret.of (hw.pick [] (by decide) rfl rfl)⟩)
      exact ⟨rfl, rfl⟩
    · have hg_4_2' := hg_4_2
      try simp only [decide_eq_true_eq, decide_eq_false_iff_not, Bool.not_eq_true', Bool.not_eq_false', Bool.not_not, ne_eq, Decidable.not_not, Int.not_lt, Int.not_le, beq_iff_eq, bne_iff_ne, Bool.and_eq_true, Bool.or_eq_true, Bool.or_eq_false_iff, Bool.not_false, Bool.not_true, reduceCtorEq, not_true_eq_false, not_false_eq_true] at hg_4_2'
      refine AK.val _ (Yl.move rfl) ⟨_, rfl, congrArg (fun b => some (Value.bool b)) hg_4_2⟩ rfl ?_
      refine AK.val _ (Yl.lenR sl31 rfl (by first | exact .arg ‹_› | exact .own 0 rfl | exact .own 1 rfl | exact .own 2 rfl | exact .own 3 rfl | exact .own 4 rfl | exact .own 5 rfl | exact .own 6 rfl | exact .own 7 rfl | exact .own 8 rfl | assumption)) ⟨_, rfl, congrArg (fun b => some (Value.bool b)) hg_4_2⟩ rfl ?_
      refine AK.val _ (Yl.gtr rfl rfl) ⟨_, rfl, congrArg (fun b => some (Value.bool b)) hg_4_2⟩ rfl ?_
      refine AK.val _ (Yl.pickF rfl (hg_4_2) rfl) trivial rfl ?_
      refine AK.nil ?_
      refine AK.then_ (hK7 _ ?_)
      refine AK.condD rfl (fun hc1 => ?_) (fun hc1 => ?_)
      · refine AK.seq (fun _ hK9 => ?_)
        refine AK.region ?_
        refine AK.call co20 rfl (fun w hw => s_awake w) trivial rfl ?_
        rintro r2 o2 ⟨rfl, rfl⟩
        refine AK.val _ (Yl.assign rfl) trivial rfl ?_
        refine AK.nil ?_
        refine AK.then_ (hK9 _ ?_)
        refine AK.ret ?_
        refine AK.then_ret ?_
        refine AK.ret1 rfl rfl (fun w hw => ⟨_, _, ?_, rfl, Ret.of (hw.pick [] (by decide) rfl rfl)⟩)
        exact ⟨rfl, rfl⟩
      · refine AK.skip ?_
        refine AK.then_ (hK6 _ ?_)
        refine AK.seq (fun _ hK10 => ?_)
        refine AK.region ?_
        refine AK.val _ (Yl.move rfl) trivial rfl ?_
        refine AK.val _ (Yl.move rfl) trivial rfl ?_
        refine AK.val _ (Yl.move rfl) trivial rfl ?_
        refine AK.call co28 rfl (fun w hw => s_reffrom w n v ps (RdP.at h0 hw) (of_decide_eq_true hc0)) trivial rfl ?_
        rintro r1 o rfl
        refine AK.call co16 rfl (fun w hw => s_same w pv0 r1 (fromB n ps) (fromB n ps) (RdI.own 0 hw rfl) (RdI.own 1 hw rfl) (by omega)) trivial rfl ?_
        rintro r2 o2 ⟨rfl, rfl⟩
        refine AK.val _ (Yl.move rfl) trivial rfl ?_
        refine AK.knownT (g := 32) rfl (by simp) (fun hg_6_5 => ?_)
        refine AK.call co20 rfl (fun w hw => s_awake w) ⟨_, rfl, congrArg (fun b => some (Value.bool b)) hg_6_5⟩ rfl ?_
        rintro r2 o2 ⟨rfl, rfl⟩
        refine AK.val _ (Yl.pickT rfl (hg_6_5) rfl) trivial rfl ?_
        refine AK.val _ (Yl.assign rfl) trivial rfl ?_
        refine AK.nil ?_
        refine AK.then_ (hK10 _ ?_)
        refine AK.ret ?_
        refine AK.ret1 rfl rfl (fun w hw => ⟨_, _, ?_, rfl, Ret.of (hw.pick [] (by decide) rfl rfl)⟩)
        exact ⟨rfl, rfl⟩

end Go.Proofs.Ytkdidaiedibhaaa
