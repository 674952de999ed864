import Derived.Test.YtoikhoniogicdaaE17
set_option linter.unusedVariables false
set_option linter.unusedSimpArgs false
namespace Go.Proofs.Ytoikhoniogicdaa
open Go.Sx Go.RowKit
theorem HeldK.four {C : Cx} {sl : List (Nat × Value)} {own : List Asn} {ops : Array Oper} {Q : Exit → Act → World → Prop} {n : Nat} {oS : List Asn} (i j k m : Nat) {fuel : Nat} {listed listed1 listed2 listed3 listed4 : Array Bool} {o o' o'' o4 : Oper} (hr : Region.ready .any ops listed = [i, j, k, m]) (hi : ops[i]? = some o) (hj : ops[j]? = some o') (hk : ops[k]? = some o'') (hm : ops[m]? = some o4) (hl : listed.setIfInBounds i true = listed1) (hl' : listed.setIfInBounds j true = listed2) (hl'' : listed.setIfInBounds k true = listed3) (hl4 : listed.setIfInBounds m true = listed4)
    (h : AK C ⟨sl, own⟩ (wpList C.P ops (Qn fun _ => HNext C ops Q oS n fuel listed1) [o])) (h' : AK C ⟨sl, own⟩ (wpList C.P ops (Qn fun _ => HNext C ops Q oS n fuel listed2) [o'])) (h'' : AK C ⟨sl, own⟩ (wpList C.P ops (Qn fun _ => HNext C ops Q oS n fuel listed3) [o''])) (h4 : AK C ⟨sl, own⟩ (wpList C.P ops (Qn fun _ => HNext C ops Q oS n fuel listed4) [o4])) : AK C ⟨sl, own⟩ (HeldK C ops Q oS n (fuel + 1) listed) :=
  HeldK.all [i, j, k, m] hr rfl (fun q hq => by
    simp at hq
    rcases hq with rfl | rfl | rfl | rfl
    · exact fun a w hs => wpOp_of_list hi (by rw [hl]; exact h a w hs)
    · exact fun a w hs => wpOp_of_list hj (by rw [hl']; exact h' a w hs)
    · exact fun a w hs => wpOp_of_list hk (by rw [hl'']; exact h'' a w hs)
    · exact fun a w hs => wpOp_of_list hm (by rw [hl4]; exact h4 a w hs))
theorem HeldK.name {C : Cx} {sl : List (Nat × Value)} {own oS : List Asn} {ops : Array Oper} {Q : Exit → Act → World → Prop} {n f : Nat} {l : Array Bool} (h : ∀ H : Nat → Array Bool → Act → World → Prop, (H = fun f l => HeldK C ops Q oS n f l) → AK C ⟨sl, own⟩ (H f l)) : AK C ⟨sl, own⟩ (HeldK C ops Q oS n f l) := h _ rfl
theorem HeldK.fromD {C : Cx} {st : St} {oS : List Asn} {ops : Array Oper} {Q : Exit → Act → World → Prop} {n f : Nat} {l : Array Bool} {H : Nat → Array Bool → Act → World → Prop} (hH : H = fun f l => HeldK C ops Q oS n f l) (h : AK C st (HeldK C ops Q oS n f l)) : AK C st (H f l) := by subst hH; exact h
theorem HeldK.toD {C : Cx} {sl kv : List (Nat × Value)} {own ow oS : List Asn} {ops : Array Oper} {Q : Exit → Act → World → Prop} {n f : Nat} {l : Array Bool} {H : Nat → Array Bool → Act → World → Prop} (hH : H = fun f l => HeldK C ops Q oS n f l) (h : AK C ⟨kv, ow⟩ (H f l)) (h1 : SlLe sl kv) (h2 : ∀ w, HW C own w → HW C ow w) : AK C ⟨sl, own⟩ (HeldK C ops Q oS n f l) := by subst hH; exact AK.weakenS h1 h2 h
theorem HeldK.intoD {C : Cx} {sl kv : List (Nat × Value)} {own ow oS : List Asn} {ops : Array Oper} {Q : Exit → Act → World → Prop} {n f : Nat} {l l' : Array Bool} {H : Nat → Array Bool → Act → World → Prop} (hH : H = fun f l => HeldK C ops Q oS n f l) (h : AK C ⟨kv, ow⟩ (H f l')) (h1 : SlLe sl kv) (h2 : ∀ w, HW C own w → HW C ow w) (e : l = l' := by kernel_rfl) : AK C ⟨sl, own⟩ (H f l) := by subst e; exact AK.weakenS h1 h2 h
theorem HWle.setA {own : List Asn} : ∀ {i : Nat} {A B : Asn}, own[i]? = some B → Ale A B → HWle (own.set i A) own := by
  have refl : ∀ l : List Asn, HWle l l := fun l => by
    induction l with
    | nil => exact .nil
    | cons a l ih => exact .cons Ale.rfl ih
  induction own with
  | nil => intro i A B h _; simp at h
  | cons a l ih =>
    intro i A B h hA
    cases i with
    | zero => simp at h; subst h; exact .cons hA (refl l)
    | succ i => exact .cons Ale.rfl (ih (by simpa using h) hA)
theorem AK.snd2 {C : Cx} {sl : List (Nat × Value)} {own : List Asn} {K : Act → World → Prop} (i : Nat) {v v' : Value} {E : TypeId} {sz n m : Nat} {cs cs' : List Value} (hi : own[i]? = some (row2 v v' E sz n m cs cs')) (h : AK C ⟨sl, own.set i (row v' E sz m cs')⟩ K) : AK C ⟨sl, own⟩ K :=
  AK.own' _ (fun w hw => (HWle.setA hi Ale.snd).hw hw) h
set_option maxHeartbeats 4000000 in
set_option maxRecDepth 100000 in
theorem l_turned (w : World) (v : Value) (d : Dfa) (h : RdD (fun _ => False) w v d) (wh pa tt : Int) (hpa : -9223372036854775808 ≤ pa ∧ pa ≤ 9223372036854775807) (l : List UInt8) (hm : l.length ≤ 9223372036854775807) : CallS Try.prog 13 [v, .int .i64 wh, .int .i64 pa, .int .i64 tt, sv l] w (fun r o => r = .bool true ∧ o = []) := by
 have h0 := h
 obtain ⟨vF, vN, rfl, hF, hN⟩ := h
 have hF0 := hF
 have hN0 := hN
 obtain ⟨rs, hrl, hNr, hNi⟩ := hN
 have sF := hF.sl
 have sN := hNr.sl
 have hmf := hF.le
 have hmn := hNr.le
 unfold RdL at hF
 refine spec_of Try.func13 rfl (Nat.le_of_ble_eq_true rfl) ?_
 refine .sr fun _ hK1 => ?_
 refine AK.box_ (E := 25) (cs := [.int .i64 d.L, .int .i64 d.s, vF, vN]) rfl rfl rfl trivial rfl (fun bx5 => ?_)
 refine .as rfl (.nt hK1 ?_)
 refine .seq fun _ hK2 => ?_
 refine .sr fun _ hK3 => ?_
 refine .v (.loadBoxG ag25 rfl bsp rfl rfl) ?_
 refine AK.call co22 rfl (fun w hw => s_small w _ d (h0.at hw) 12) trivial rfl ?_
 rintro r o ⟨rfl, rfl⟩
 refine .v (.not rfl) ?_
 refine .nt hK3 ?_
 refine AK.condB rfl (fun hc0 => ?_) (fun hc0 => ?_)
 ·refine .sr fun _ hK4 => ?_
  refine AK.call co16 rfl (fun w hw => s_awake w) trivial rfl ?_
  rintro r o ⟨rfl, rfl⟩
  refine .as rfl (.nt hK4 (.ret (.then_ret ?_)))
  refine AK.ret1 rfl rfl (fun w hw => ⟨_, _, ?_, rfl, Ret.of (hw.pick [] (by decide) rfl rfl)⟩)
  exact ⟨rfl, rfl⟩
 ·have hv : VD d := (by simpa using hc0 : _ ∧ VD d).2
  have he0 : errV d = 0 := (errV_iff d).2 hv
  have e1 : MinV d = minD d := if_pos hv
  have e2 : MapV d = mapM d := if_pos hv
  have e3 : AccX d = AccW (minD d) := if_pos hv
  have hla : ∀ a ∈ AccX d, a.length ≤ 9223372036854775807 := by rw [e3]; exact acc_len hv
  have hml : (MapV d).length = d.fin.length := by rw [e2]; exact (mapM_ok hv).len
  have hal : (AccX d).length = (MinV d).fin.length := by rw [e3, e1]; exact (acc_ok hv).len
  have hn0 := hv.s
  have hn5 := hv.n
  have hm0 := (min_vd hv).s
  have hm5 := (min_vd hv).n
  rw [← e1] at hm0 hm5
  obtain ⟨i1, ei1, hi1, hp1, hq1⟩ := idx_ok pa (n := (MapV d).length) (by omega)
  obtain ⟨i2, ei2, hi2, hp2, hq2⟩ := idx_ok pa (n := (AccX d).length) (by omega)
  refine .skip ?_
  refine AK.then_ (hK2 _ ?_)
  refine .sr fun _ hK5 => ?_
  refine .v (.loadBoxG ag25 rfl bsp rfl rfl) ?_
  refine AK.call co34 rfl (fun w hw => s_prove w _ d (h0.at hw)) trivial rfl ?_
  rintro r o ⟨mF, mN, mS, vA, vT, mrs, ts, rfl, hmrs, smF, smN, smS, svA, svT, hts, hts0, rfl⟩
  have hts1 := hts hv
  have hlt := tests_len hts1
  have htn := hts1.len
  rw [← e1] at htn
  refine .mv rfl ?_
  refine .v (.extract rfl rfl) ?_
  refine .v (.extract rfl rfl) ?_
  refine .v (.extract rfl rfl) ?_
  refine AK.alloc el25 rfl rfl trivial rfl (fun bx11 => ?_)
  refine AK.alloc el51 rfl rfl trivial rfl (fun bx12 => ?_)
  refine AK.storeBox 7 (us := [.int .i64 (MinV d).L, .int .i64 (MinV d).s, mF, mN]) (cs' := [.int .i64 (MinV d).L, .int .i64 (MinV d).s, mF, mN]) rfl sz25 rfl rfl rfl rfl oneP (Nat.le_of_ble_eq_true rfl) rfl trivial ?_
  refine AK.storeBox 8 (us := [mS, vA, vT]) (cs' := [mS, vA, vT]) rfl sz51 rfl rfl rfl rfl oneP (Nat.le_of_ble_eq_true rfl) rfl trivial ?_
  refine .as rfl (.nt hK5 ?_)
  refine .seq fun _ hK6 => ?_
  refine .sr fun _ hK7 => ?_
  refine .mv rfl ?_
  refine .v (.neq rfl rfl) ?_
  refine .mv rfl ?_
  refine AK.knownF (g := 28) rfl (decide_eq_false (fun h => h he0)) (fun hg_4_2 => ?_)
  refine AK.val _ (Yl.fieldAddr fd51_0 rfl) ⟨_, rfl, congrArg (fun b => some (Value.bool b)) hg_4_2⟩ rfl ?_
  refine AK.val _ (Yl.loadBox on26 rfl bsp rfl) ⟨_, rfl, congrArg (fun b => some (Value.bool b)) hg_4_2⟩ rfl ?_
  refine AK.val _ (Yl.lenR sl26 rfl rdp) ⟨_, rfl, congrArg (fun b => some (Value.bool b)) hg_4_2⟩ rfl ?_
  refine AK.val _ (Yl.fieldAddr fd25_2 rfl) ⟨_, rfl, congrArg (fun b => some (Value.bool b)) hg_4_2⟩ rfl ?_
  refine AK.val _ (Yl.loadBox on22 rfl bsp rfl) ⟨_, rfl, congrArg (fun b => some (Value.bool b)) hg_4_2⟩ rfl ?_
  refine AK.val _ (Yl.lenR sl22 rfl rdp) ⟨_, rfl, congrArg (fun b => some (Value.bool b)) hg_4_2⟩ rfl ?_
  refine AK.val _ (Yl.neq rfl rfl) ⟨_, rfl, congrArg (fun b => some (Value.bool b)) hg_4_2⟩ rfl ?_
  refine .v (.pickF rfl (hg_4_2) rfl) ?_
  refine .mv rfl ?_
  refine AK.knownF (g := 37) rfl (decide_eq_false (by omega)) (fun hg_4_11 => ?_)
  refine AK.val _ (Yl.fieldAddr fd51_1 rfl) ⟨_, rfl, congrArg (fun b => some (Value.bool b)) hg_4_11⟩ rfl ?_
  refine AK.val _ (Yl.loadBox on49 rfl bsp rfl) ⟨_, rfl, congrArg (fun b => some (Value.bool b)) hg_4_11⟩ rfl ?_
  refine AK.val _ (Yl.lenR sl49 rfl rdp) ⟨_, rfl, congrArg (fun b => some (Value.bool b)) hg_4_11⟩ rfl ?_
  refine AK.val _ (Yl.fieldAddr fd25_2 rfl) ⟨_, rfl, congrArg (fun b => some (Value.bool b)) hg_4_11⟩ rfl ?_
  refine AK.val _ (Yl.loadBox on22 rfl bsp rfl) ⟨_, rfl, congrArg (fun b => some (Value.bool b)) hg_4_11⟩ rfl ?_
  refine AK.val _ (Yl.lenR sl22 rfl rdp) ⟨_, rfl, congrArg (fun b => some (Value.bool b)) hg_4_11⟩ rfl ?_
  refine AK.val _ (Yl.neq rfl rfl) ⟨_, rfl, congrArg (fun b => some (Value.bool b)) hg_4_11⟩ rfl ?_
  refine .v (.pickF rfl (hg_4_11) rfl) ?_
  refine .nt hK7 ?_
  refine AK.cond_f rfl (decide_eq_false (by omega)) ?_
  refine .skip ?_
  refine AK.then_ (hK6 _ ?_)
  refine .seq fun _ hK8 => ?_
  refine AK.joinK (X := Value × Value × Value × Nat) [(1, _), (2, _), (3, _), (4, _), (5, _), (11, _)] (fun z => [(14, .pointer (some ⟨z.2.2.2, 0, none⟩))]) (fun z => ([box bx5 25 4 [.int .i64 d.L, .int .i64 d.s, vF, vN]] ++ dfaO 4 3 26 mF mN mrs (MinV d) ++ [row mS 3 1 (MapV d).length ((MapV d).map (Value.int .i64)), row vA 9 1 (AccX d).length ((AccX d).map sv), row vT 9 1 ts.length (ts.map sv), box bx11 25 4 [.int .i64 (MinV d).L, .int .i64 (MinV d).s, mF, mN], box bx12 51 3 [mS, vA, vT]] ++ [row z.1 3 1 (0 + (MapV d).length) ((MapV d).map (Value.int .i64)), row z.2.1 9 1 (0 + (AccX d).length) ((AccX d).map sv), row z.2.2.1 9 1 (0 + ts.length) (ts.map sv), box z.2.2.2 51 3 [z.1, z.2.1, z.2.2.1]])) (fun z => IsSl z.1 ∧ IsSl z.2.1 ∧ IsSl z.2.2.1) slr (fun _ hJ => ?_) (fun z hg => ?_)
  ·try (conv => enter [2, 2]; dsimp only [List.set_cons_zero, List.set_cons_succ, List.cons_append, List.nil_append])
   refine AK.heldS _ 14 (fun _ hw => hw.pick [8] (by decide) rfl rfl) mixed ?_
   refine HeldK.firstS (fun _ hw => hw.pick [8] (by decide) rfl rfl) 1 (fuel := 14) (listed' := (lb 15 2)) _ rfl krf krf rfl (Yl.fieldAddr fd51_0 rfl) trivial rfl ?_
   refine HeldK.firstS (fun _ hw => hw.pick [8] (by decide) rfl rfl) 2 (fuel := 13) (listed' := (lb 15 6)) _ rfl krf krf rfl (Yl.loadBox on26 rfl bsp rfl) trivial rfl ?_
   refine HeldK.firstS (fun _ hw => hw.pick [8] (by decide) rfl rfl) 5 (fuel := 12) (listed' := (lb 15 38)) _ rfl krf krf rfl (Yl.fieldAddr fd51_1 rfl) trivial rfl ?_
   refine HeldK.firstS (fun _ hw => hw.pick [8] (by decide) rfl rfl) 6 (fuel := 11) (listed' := (lb 15 102)) _ rfl krf krf rfl (Yl.loadBox on49 rfl bsp rfl) trivial rfl ?_
   refine HeldK.firstS (fun _ hw => hw.pick [8] (by decide) rfl rfl) 9 (fuel := 10) (listed' := (lb 15 614)) _ rfl krf krf rfl (Yl.fieldAddr fd51_2 rfl) trivial rfl ?_
   refine HeldK.firstS (fun _ hw => hw.pick [8] (by decide) rfl rfl) 10 (fuel := 9) (listed' := (lb 15 1638)) _ rfl krf krf rfl (Yl.loadBox on49 rfl bsp rfl) trivial rfl ?_
   refine HeldK.name fun H hH => ?_
   have hD0 : ∀ (c1 : Value) (hc1 : IsSl c1) (c2 : Value) (hc2 : IsSl c2) (c3 : Value) (hc3 : IsSl c3) (bx : Nat), AK ⟨Try.prog, Try.f13.ntmps, w, fun _ => False⟩ ⟨[(12, .pointer (some ⟨bx12, 0, none⟩)), (1, .int .i64 wh), (2, .int .i64 pa), (3, .int .i64 tt), (4, sv l), (5, .pointer (some ⟨bx5, 0, none⟩)), (11, .pointer (some ⟨bx11, 0, none⟩)), (49, c1), (53, c2), (57, c3), (14, .pointer (some ⟨bx, 0, none⟩)), (58, .agg #[c1, c2, c3])], ([box bx5 25 4 [.int .i64 d.L, .int .i64 d.s, vF, vN]] ++ dfaO 4 3 26 mF mN mrs (MinV d) ++ [row mS 3 1 (MapV d).length ((MapV d).map (Value.int .i64)), row vA 9 1 (AccX d).length ((AccX d).map sv), row vT 9 1 ts.length (ts.map sv), box bx11 25 4 [.int .i64 (MinV d).L, .int .i64 (MinV d).s, mF, mN], box bx12 51 3 [mS, vA, vT]] ++ [row c1 3 1 (0 + (MapV d).length) ((MapV d).map (Value.int .i64)), row c2 9 1 (0 + (AccX d).length) ((AccX d).map sv), row c3 9 1 (0 + ts.length) (ts.map sv), box bx 51 3 [.slice none 0 0, .slice none 0 0, .slice none 0 0]])⟩ (H 1 (lb 15 16383)) := by
    intro c1 hc1 c2 hc2 c3 hc3 bx
    refine HeldK.fromD hH ?_
    refine HeldK.one 14 (fuel := 0) (listed' := (lb 15 32767)) krf rfl krf ?_
    refine AK.storeBox 12 (us := [c1, c2, c3]) (cs' := [c1, c2, c3]) rfl sz51 rfl rfl rfl rfl oneP (Nat.le_of_ble_eq_true rfl) rfl trivial ?_
    refine .nil ?_
    refine HeldK.backN 15 krf rfl krf ?_
    refine .nil ?_
    refine AK.fromQn ?_
    exact hJ _ _ ((c1, c2, c3, bx)) ⟨hc1, hc2, hc3⟩ (slr) (fun w hw => hw.pick [0, 1, 2, 3, 4, 5, 6, 7, 8, 9, 10, 11, 12] (by decide) rfl rfl)
   have hD1 : ∀ (c1 : Value) (hc1 : IsSl c1) (c2 : Value) (hc2 : IsSl c2) (c3 : Value) (hc3 : IsSl c3) (bx : Nat), AK ⟨Try.prog, Try.f13.ntmps, w, fun _ => False⟩ ⟨[(12, .pointer (some ⟨bx12, 0, none⟩)), (1, .int .i64 wh), (2, .int .i64 pa), (3, .int .i64 tt), (4, sv l), (5, .pointer (some ⟨bx5, 0, none⟩)), (11, .pointer (some ⟨bx11, 0, none⟩)), (49, c1), (53, c2), (56, vT), (54, c3), (14, .pointer (some ⟨bx, 0, none⟩))], ([box bx5 25 4 [.int .i64 d.L, .int .i64 d.s, vF, vN]] ++ dfaO 4 3 26 mF mN mrs (MinV d) ++ [row mS 3 1 (MapV d).length ((MapV d).map (Value.int .i64)), row vA 9 1 (AccX d).length ((AccX d).map sv), row vT 9 1 ts.length (ts.map sv), box bx11 25 4 [.int .i64 (MinV d).L, .int .i64 (MinV d).s, mF, mN], box bx12 51 3 [mS, vA, vT]] ++ [row c1 3 1 (0 + (MapV d).length) ((MapV d).map (Value.int .i64)), row c2 9 1 (0 + (AccX d).length) ((AccX d).map sv), row c3 9 1 0 [], box bx 51 3 [.slice none 0 0, .slice none 0 0, .slice none 0 0]])⟩ (H 3 (lb 15 10239)) := by
    intro c1 hc1 c2 hc2 c3 hc3 bx
    refine HeldK.fromD hH ?_
    refine HeldK.one 11 (fuel := 2) (listed' := (lb 15 12287)) krf rfl krf ?_
    refine AK.appendH 11 rfl sl49 el9 rfl (by decide) rfl rfl rfl rdp (one'_map _ (fun _ => rfl) _) (by omega) (by omega) trivial rfl (fun c3 hc3 => ?_)
    refine AK.snd2 11 rfl ?_
    refine .nil ?_
    refine HeldK.backS (fun _ hw => hw.pick [8] (by decide) rfl rfl) ?_
    refine HeldK.firstS (fun _ hw => hw.pick [8] (by decide) rfl rfl) 12 (fuel := 1) (listed' := (lb 15 16383)) _ rfl krf krf rfl (Yl.build (parts := [(0, .tmp 49), (1, .tmp 53), (2, .tmp 57)]) (cs := #[c1, c2, c3]) rfl (by obtain ⟨_, _, _, rfl⟩ := hc1; obtain ⟨_, _, _, rfl⟩ := hc2; obtain ⟨_, _, _, rfl⟩ := hc3; kernel_rfl)) trivial rfl ?_
    exact HeldK.toD hH (hD0 c1 hc1 c2 hc2 c3 hc3 bx) slr (fun w hw => hw.pick [0, 1, 2, 3, 4, 5, 6, 7, 8, 9, 10, 11, 12] (by decide) rfl rfl)
   have hD2 : ∀ (c1 : Value) (hc1 : IsSl c1) (c2 : Value) (hc2 : IsSl c2) (c3 : Value) (hc3 : IsSl c3), AK ⟨Try.prog, Try.f13.ntmps, w, fun _ => False⟩ ⟨[(12, .pointer (some ⟨bx12, 0, none⟩)), (1, .int .i64 wh), (2, .int .i64 pa), (3, .int .i64 tt), (4, sv l), (5, .pointer (some ⟨bx5, 0, none⟩)), (11, .pointer (some ⟨bx11, 0, none⟩)), (49, c1), (53, c2), (57, c3), (58, .agg #[c1, c2, c3])], ([box bx5 25 4 [.int .i64 d.L, .int .i64 d.s, vF, vN]] ++ dfaO 4 3 26 mF mN mrs (MinV d) ++ [row mS 3 1 (MapV d).length ((MapV d).map (Value.int .i64)), row vA 9 1 (AccX d).length ((AccX d).map sv), row vT 9 1 ts.length (ts.map sv), box bx11 25 4 [.int .i64 (MinV d).L, .int .i64 (MinV d).s, mF, mN], box bx12 51 3 [mS, vA, vT]] ++ [row c1 3 1 (0 + (MapV d).length) ((MapV d).map (Value.int .i64)), row c2 9 1 (0 + (AccX d).length) ((AccX d).map sv), row c3 9 1 (0 + ts.length) (ts.map sv)])⟩ (H 2 (lb 15 8191)) := by
    intro c1 hc1 c2 hc2 c3 hc3
    refine HeldK.fromD hH ?_
    refine HeldK.one 13 (fuel := 1) (listed' := (lb 15 16383)) krf rfl krf ?_
    refine AK.alloc el51 rfl rfl trivial rfl (fun bx => ?_)
    refine .nil ?_
    refine HeldK.backS (fun _ hw => hw.pick [8] (by decide) rfl rfl) ?_
    exact HeldK.toD hH (hD0 c1 hc1 c2 hc2 c3 hc3 bx) slr (fun w hw => hw.pick [0, 1, 2, 3, 4, 5, 6, 7, 8, 9, 10, 11, 12] (by decide) rfl rfl)
   have hD3 : ∀ (c1 : Value) (hc1 : IsSl c1) (c2 : Value) (hc2 : IsSl c2) (c3 : Value) (hc3 : IsSl c3) (bx : Nat), AK ⟨Try.prog, Try.f13.ntmps, w, fun _ => False⟩ ⟨[(12, .pointer (some ⟨bx12, 0, none⟩)), (1, .int .i64 wh), (2, .int .i64 pa), (3, .int .i64 tt), (4, sv l), (5, .pointer (some ⟨bx5, 0, none⟩)), (11, .pointer (some ⟨bx11, 0, none⟩)), (49, c1), (52, vA), (50, c2), (56, vT), (54, c3), (14, .pointer (some ⟨bx, 0, none⟩))], ([box bx5 25 4 [.int .i64 d.L, .int .i64 d.s, vF, vN]] ++ dfaO 4 3 26 mF mN mrs (MinV d) ++ [row mS 3 1 (MapV d).length ((MapV d).map (Value.int .i64)), row vA 9 1 (AccX d).length ((AccX d).map sv), row vT 9 1 ts.length (ts.map sv), box bx11 25 4 [.int .i64 (MinV d).L, .int .i64 (MinV d).s, mF, mN], box bx12 51 3 [mS, vA, vT]] ++ [row c1 3 1 (0 + (MapV d).length) ((MapV d).map (Value.int .i64)), row c2 9 1 0 [], row c3 9 1 0 [], box bx 51 3 [.slice none 0 0, .slice none 0 0, .slice none 0 0]])⟩ (H 4 (lb 15 10111)) := by
    intro c1 hc1 c2 hc2 c3 hc3 bx
    refine HeldK.fromD hH ?_
    refine HeldK.one 7 (fuel := 3) (listed' := (lb 15 10239)) krf rfl krf ?_
    refine AK.appendH 10 rfl sl49 el9 rfl (by decide) rfl rfl rfl rdp (one'_map _ (fun _ => rfl) _) (by omega) (by omega) trivial rfl (fun c2 hc2 => ?_)
    refine AK.snd2 10 rfl ?_
    refine .nil ?_
    refine HeldK.backS (fun _ hw => hw.pick [8] (by decide) rfl rfl) ?_
    exact HeldK.toD hH (hD1 c1 hc1 c2 hc2 c3 hc3 bx) slr (fun w hw => hw.pick [0, 1, 2, 3, 4, 5, 6, 7, 8, 9, 10, 11, 12] (by decide) rfl rfl)
   have hD4 : ∀ (c1 : Value) (hc1 : IsSl c1) (c2 : Value) (hc2 : IsSl c2) (bx : Nat), AK ⟨Try.prog, Try.f13.ntmps, w, fun _ => False⟩ ⟨[(12, .pointer (some ⟨bx12, 0, none⟩)), (1, .int .i64 wh), (2, .int .i64 pa), (3, .int .i64 tt), (4, sv l), (5, .pointer (some ⟨bx5, 0, none⟩)), (11, .pointer (some ⟨bx11, 0, none⟩)), (49, c1), (53, c2), (56, vT), (14, .pointer (some ⟨bx, 0, none⟩))], ([box bx5 25 4 [.int .i64 d.L, .int .i64 d.s, vF, vN]] ++ dfaO 4 3 26 mF mN mrs (MinV d) ++ [row mS 3 1 (MapV d).length ((MapV d).map (Value.int .i64)), row vA 9 1 (AccX d).length ((AccX d).map sv), row vT 9 1 ts.length (ts.map sv), box bx11 25 4 [.int .i64 (MinV d).L, .int .i64 (MinV d).s, mF, mN], box bx12 51 3 [mS, vA, vT]] ++ [row c1 3 1 (0 + (MapV d).length) ((MapV d).map (Value.int .i64)), row c2 9 1 (0 + (AccX d).length) ((AccX d).map sv), box bx 51 3 [.slice none 0 0, .slice none 0 0, .slice none 0 0]])⟩ (H 4 (lb 15 9983)) := by
    intro c1 hc1 c2 hc2 bx
    refine HeldK.fromD hH ?_
    refine HeldK.one 8 (fuel := 3) (listed' := (lb 15 10239)) krf rfl krf ?_
    refine AK.lit (xs := []) sl49 el9 rfl rfl rfl (by intro a ha; cases ha) (by decide) (by decide) trivial rfl (fun c3 => ?_)
    refine AK.shape 12 rfl (fun hc3 => ?_)
    refine .nil ?_
    refine HeldK.backS (fun _ hw => hw.pick [8] (by decide) rfl rfl) ?_
    exact HeldK.toD hH (hD1 c1 hc1 c2 hc2 c3 hc3 bx) slr (fun w hw => hw.pick [0, 1, 2, 3, 4, 5, 6, 7, 8, 9, 10, 12, 11] (by decide) rfl rfl)
   have hD5 : ∀ (c1 : Value) (hc1 : IsSl c1) (c2 : Value) (hc2 : IsSl c2) (c3 : Value) (hc3 : IsSl c3), AK ⟨Try.prog, Try.f13.ntmps, w, fun _ => False⟩ ⟨[(12, .pointer (some ⟨bx12, 0, none⟩)), (1, .int .i64 wh), (2, .int .i64 pa), (3, .int .i64 tt), (4, sv l), (5, .pointer (some ⟨bx5, 0, none⟩)), (11, .pointer (some ⟨bx11, 0, none⟩)), (49, c1), (53, c2), (56, vT), (54, c3)], ([box bx5 25 4 [.int .i64 d.L, .int .i64 d.s, vF, vN]] ++ dfaO 4 3 26 mF mN mrs (MinV d) ++ [row mS 3 1 (MapV d).length ((MapV d).map (Value.int .i64)), row vA 9 1 (AccX d).length ((AccX d).map sv), row vT 9 1 ts.length (ts.map sv), box bx11 25 4 [.int .i64 (MinV d).L, .int .i64 (MinV d).s, mF, mN], box bx12 51 3 [mS, vA, vT]] ++ [row c1 3 1 (0 + (MapV d).length) ((MapV d).map (Value.int .i64)), row c2 9 1 (0 + (AccX d).length) ((AccX d).map sv), row c3 9 1 0 []])⟩ (H 4 (lb 15 2047)) := by
    intro c1 hc1 c2 hc2 c3 hc3
    refine HeldK.fromD hH ?_
    refine HeldK.two 11 13 (fuel := 3) (listed1 := (lb 15 4095)) (listed2 := (lb 15 10239)) krf rfl rfl krf krf ?_ ?_
    ·refine AK.appendH 11 rfl sl49 el9 rfl (by decide) rfl rfl rfl rdp (one'_map _ (fun _ => rfl) _) (by omega) (by omega) trivial rfl (fun c3 hc3 => ?_)
     refine AK.snd2 11 rfl ?_
     refine .nil ?_
     refine HeldK.backS (fun _ hw => hw.pick [8] (by decide) rfl rfl) ?_
     refine HeldK.firstS (fun _ hw => hw.pick [8] (by decide) rfl rfl) 12 (fuel := 2) (listed' := (lb 15 8191)) _ rfl krf krf rfl (Yl.build (parts := [(0, .tmp 49), (1, .tmp 53), (2, .tmp 57)]) (cs := #[c1, c2, c3]) rfl (by obtain ⟨_, _, _, rfl⟩ := hc1; obtain ⟨_, _, _, rfl⟩ := hc2; obtain ⟨_, _, _, rfl⟩ := hc3; kernel_rfl)) trivial rfl ?_
     exact HeldK.toD hH (hD2 c1 hc1 c2 hc2 c3 hc3) slr (fun w hw => hw.pick [0, 1, 2, 3, 4, 5, 6, 7, 8, 9, 10, 11] (by decide) rfl rfl)
    ·refine AK.alloc el51 rfl rfl trivial rfl (fun bx => ?_)
     refine .nil ?_
     refine HeldK.backS (fun _ hw => hw.pick [8] (by decide) rfl rfl) ?_
     exact HeldK.toD hH (hD1 c1 hc1 c2 hc2 c3 hc3 bx) slr (fun w hw => hw.pick [0, 1, 2, 3, 4, 5, 6, 7, 8, 9, 10, 11, 12] (by decide) rfl rfl)
   have hD6 : ∀ (c1 : Value) (hc1 : IsSl c1) (c2 : Value) (hc2 : IsSl c2) (c3 : Value) (hc3 : IsSl c3) (bx : Nat), AK ⟨Try.prog, Try.f13.ntmps, w, fun _ => False⟩ ⟨[(12, .pointer (some ⟨bx12, 0, none⟩)), (1, .int .i64 wh), (2, .int .i64 pa), (3, .int .i64 tt), (4, sv l), (5, .pointer (some ⟨bx5, 0, none⟩)), (11, .pointer (some ⟨bx11, 0, none⟩)), (48, mS), (46, c1), (52, vA), (50, c2), (56, vT), (54, c3), (14, .pointer (some ⟨bx, 0, none⟩))], ([box bx5 25 4 [.int .i64 d.L, .int .i64 d.s, vF, vN]] ++ dfaO 4 3 26 mF mN mrs (MinV d) ++ [row mS 3 1 (MapV d).length ((MapV d).map (Value.int .i64)), row vA 9 1 (AccX d).length ((AccX d).map sv), row vT 9 1 ts.length (ts.map sv), box bx11 25 4 [.int .i64 (MinV d).L, .int .i64 (MinV d).s, mF, mN], box bx12 51 3 [mS, vA, vT]] ++ [row c1 3 1 0 [], row c2 9 1 0 [], row c3 9 1 0 [], box bx 51 3 [.slice none 0 0, .slice none 0 0, .slice none 0 0]])⟩ (H 5 (lb 15 10103)) := by
    intro c1 hc1 c2 hc2 c3 hc3 bx
    refine HeldK.fromD hH ?_
    refine HeldK.one 3 (fuel := 4) (listed' := (lb 15 10111)) krf rfl krf ?_
    refine AK.appendH 9 rfl sl26 el3 rfl (by decide) rfl rfl rfl rdp (one'_map _ (fun _ => rfl) _) (by omega) (by omega) trivial rfl (fun c1 hc1 => ?_)
    refine AK.snd2 9 rfl ?_
    refine .nil ?_
    refine HeldK.backS (fun _ hw => hw.pick [8] (by decide) rfl rfl) ?_
    exact HeldK.toD hH (hD3 c1 hc1 c2 hc2 c3 hc3 bx) slr (fun w hw => hw.pick [0, 1, 2, 3, 4, 5, 6, 7, 8, 9, 10, 11, 12] (by decide) rfl rfl)
   have hD7 : ∀ (c1 : Value) (hc1 : IsSl c1) (c3 : Value) (hc3 : IsSl c3) (bx : Nat), AK ⟨Try.prog, Try.f13.ntmps, w, fun _ => False⟩ ⟨[(12, .pointer (some ⟨bx12, 0, none⟩)), (1, .int .i64 wh), (2, .int .i64 pa), (3, .int .i64 tt), (4, sv l), (5, .pointer (some ⟨bx5, 0, none⟩)), (11, .pointer (some ⟨bx11, 0, none⟩)), (49, c1), (52, vA), (56, vT), (54, c3), (14, .pointer (some ⟨bx, 0, none⟩))], ([box bx5 25 4 [.int .i64 d.L, .int .i64 d.s, vF, vN]] ++ dfaO 4 3 26 mF mN mrs (MinV d) ++ [row mS 3 1 (MapV d).length ((MapV d).map (Value.int .i64)), row vA 9 1 (AccX d).length ((AccX d).map sv), row vT 9 1 ts.length (ts.map sv), box bx11 25 4 [.int .i64 (MinV d).L, .int .i64 (MinV d).s, mF, mN], box bx12 51 3 [mS, vA, vT]] ++ [row c1 3 1 (0 + (MapV d).length) ((MapV d).map (Value.int .i64)), row c3 9 1 0 [], box bx 51 3 [.slice none 0 0, .slice none 0 0, .slice none 0 0]])⟩ (H 5 (lb 15 10095)) := by
    intro c1 hc1 c3 hc3 bx
    refine HeldK.fromD hH ?_
    refine HeldK.one 4 (fuel := 4) (listed' := (lb 15 10111)) krf rfl krf ?_
    refine AK.lit (xs := []) sl49 el9 rfl rfl rfl (by intro a ha; cases ha) (by decide) (by decide) trivial rfl (fun c2 => ?_)
    refine AK.shape 12 rfl (fun hc2 => ?_)
    refine .nil ?_
    refine HeldK.backS (fun _ hw => hw.pick [8] (by decide) rfl rfl) ?_
    exact HeldK.toD hH (hD3 c1 hc1 c2 hc2 c3 hc3 bx) slr (fun w hw => hw.pick [0, 1, 2, 3, 4, 5, 6, 7, 8, 9, 12, 10, 11] (by decide) rfl rfl)
   have hD8 : ∀ (c1 : Value) (hc1 : IsSl c1) (c2 : Value) (hc2 : IsSl c2) (bx : Nat), AK ⟨Try.prog, Try.f13.ntmps, w, fun _ => False⟩ ⟨[(12, .pointer (some ⟨bx12, 0, none⟩)), (1, .int .i64 wh), (2, .int .i64 pa), (3, .int .i64 tt), (4, sv l), (5, .pointer (some ⟨bx5, 0, none⟩)), (11, .pointer (some ⟨bx11, 0, none⟩)), (49, c1), (52, vA), (50, c2), (56, vT), (14, .pointer (some ⟨bx, 0, none⟩))], ([box bx5 25 4 [.int .i64 d.L, .int .i64 d.s, vF, vN]] ++ dfaO 4 3 26 mF mN mrs (MinV d) ++ [row mS 3 1 (MapV d).length ((MapV d).map (Value.int .i64)), row vA 9 1 (AccX d).length ((AccX d).map sv), row vT 9 1 ts.length (ts.map sv), box bx11 25 4 [.int .i64 (MinV d).L, .int .i64 (MinV d).s, mF, mN], box bx12 51 3 [mS, vA, vT]] ++ [row c1 3 1 (0 + (MapV d).length) ((MapV d).map (Value.int .i64)), row c2 9 1 0 [], box bx 51 3 [.slice none 0 0, .slice none 0 0, .slice none 0 0]])⟩ (H 5 (lb 15 9855)) := by
    intro c1 hc1 c2 hc2 bx
    refine HeldK.fromD hH ?_
    refine HeldK.two 7 8 (fuel := 4) (listed1 := (lb 15 9983)) (listed2 := (lb 15 10111)) krf rfl rfl krf krf ?_ ?_
    ·refine AK.appendH 10 rfl sl49 el9 rfl (by decide) rfl rfl rfl rdp (one'_map _ (fun _ => rfl) _) (by omega) (by omega) trivial rfl (fun c2 hc2 => ?_)
     refine AK.snd2 10 rfl ?_
     refine .nil ?_
     refine HeldK.backS (fun _ hw => hw.pick [8] (by decide) rfl rfl) ?_
     exact HeldK.toD hH (hD4 c1 hc1 c2 hc2 bx) slr (fun w hw => hw.pick [0, 1, 2, 3, 4, 5, 6, 7, 8, 9, 10, 11] (by decide) rfl rfl)
    ·refine AK.lit (xs := []) sl49 el9 rfl rfl rfl (by intro a ha; cases ha) (by decide) (by decide) trivial rfl (fun c3 => ?_)
     refine AK.shape 12 rfl (fun hc3 => ?_)
     refine .nil ?_
     refine HeldK.backS (fun _ hw => hw.pick [8] (by decide) rfl rfl) ?_
     exact HeldK.toD hH (hD3 c1 hc1 c2 hc2 c3 hc3 bx) slr (fun w hw => hw.pick [0, 1, 2, 3, 4, 5, 6, 7, 8, 9, 10, 12, 11] (by decide) rfl rfl)
   have hD9 : ∀ (c1 : Value) (hc1 : IsSl c1) (c2 : Value) (hc2 : IsSl c2) (c3 : Value) (hc3 : IsSl c3), AK ⟨Try.prog, Try.f13.ntmps, w, fun _ => False⟩ ⟨[(12, .pointer (some ⟨bx12, 0, none⟩)), (1, .int .i64 wh), (2, .int .i64 pa), (3, .int .i64 tt), (4, sv l), (5, .pointer (some ⟨bx5, 0, none⟩)), (11, .pointer (some ⟨bx11, 0, none⟩)), (49, c1), (52, vA), (50, c2), (56, vT), (54, c3)], ([box bx5 25 4 [.int .i64 d.L, .int .i64 d.s, vF, vN]] ++ dfaO 4 3 26 mF mN mrs (MinV d) ++ [row mS 3 1 (MapV d).length ((MapV d).map (Value.int .i64)), row vA 9 1 (AccX d).length ((AccX d).map sv), row vT 9 1 ts.length (ts.map sv), box bx11 25 4 [.int .i64 (MinV d).L, .int .i64 (MinV d).s, mF, mN], box bx12 51 3 [mS, vA, vT]] ++ [row c1 3 1 (0 + (MapV d).length) ((MapV d).map (Value.int .i64)), row c2 9 1 0 [], row c3 9 1 0 []])⟩ (H 5 (lb 15 1919)) := by
    intro c1 hc1 c2 hc2 c3 hc3
    refine HeldK.fromD hH ?_
    refine HeldK.two 7 13 (fuel := 4) (listed1 := (lb 15 2047)) (listed2 := (lb 15 10111)) krf rfl rfl krf krf ?_ ?_
    ·refine AK.appendH 10 rfl sl49 el9 rfl (by decide) rfl rfl rfl rdp (one'_map _ (fun _ => rfl) _) (by omega) (by omega) trivial rfl (fun c2 hc2 => ?_)
     refine AK.snd2 10 rfl ?_
     refine .nil ?_
     refine HeldK.backS (fun _ hw => hw.pick [8] (by decide) rfl rfl) ?_
     exact HeldK.toD hH (hD5 c1 hc1 c2 hc2 c3 hc3) slr (fun w hw => hw.pick [0, 1, 2, 3, 4, 5, 6, 7, 8, 9, 10, 11] (by decide) rfl rfl)
    ·refine AK.alloc el51 rfl rfl trivial rfl (fun bx => ?_)
     refine .nil ?_
     refine HeldK.backS (fun _ hw => hw.pick [8] (by decide) rfl rfl) ?_
     exact HeldK.toD hH (hD3 c1 hc1 c2 hc2 c3 hc3 bx) slr (fun w hw => hw.pick [0, 1, 2, 3, 4, 5, 6, 7, 8, 9, 10, 11, 12] (by decide) rfl rfl)
   have hD10 : ∀ (c1 : Value) (hc1 : IsSl c1) (c2 : Value) (hc2 : IsSl c2), AK ⟨Try.prog, Try.f13.ntmps, w, fun _ => False⟩ ⟨[(12, .pointer (some ⟨bx12, 0, none⟩)), (1, .int .i64 wh), (2, .int .i64 pa), (3, .int .i64 tt), (4, sv l), (5, .pointer (some ⟨bx5, 0, none⟩)), (11, .pointer (some ⟨bx11, 0, none⟩)), (49, c1), (53, c2), (56, vT)], ([box bx5 25 4 [.int .i64 d.L, .int .i64 d.s, vF, vN]] ++ dfaO 4 3 26 mF mN mrs (MinV d) ++ [row mS 3 1 (MapV d).length ((MapV d).map (Value.int .i64)), row vA 9 1 (AccX d).length ((AccX d).map sv), row vT 9 1 ts.length (ts.map sv), box bx11 25 4 [.int .i64 (MinV d).L, .int .i64 (MinV d).s, mF, mN], box bx12 51 3 [mS, vA, vT]] ++ [row c1 3 1 (0 + (MapV d).length) ((MapV d).map (Value.int .i64)), row c2 9 1 (0 + (AccX d).length) ((AccX d).map sv)])⟩ (H 5 (lb 15 1791)) := by
    intro c1 hc1 c2 hc2
    refine HeldK.fromD hH ?_
    refine HeldK.two 8 13 (fuel := 4) (listed1 := (lb 15 2047)) (listed2 := (lb 15 9983)) krf rfl rfl krf krf ?_ ?_
    ·refine AK.lit (xs := []) sl49 el9 rfl rfl rfl (by intro a ha; cases ha) (by decide) (by decide) trivial rfl (fun c3 => ?_)
     refine AK.shape 11 rfl (fun hc3 => ?_)
     refine .nil ?_
     refine HeldK.backS (fun _ hw => hw.pick [8] (by decide) rfl rfl) ?_
     exact HeldK.toD hH (hD5 c1 hc1 c2 hc2 c3 hc3) slr (fun w hw => hw.pick [0, 1, 2, 3, 4, 5, 6, 7, 8, 9, 10, 11] (by decide) rfl rfl)
    ·refine AK.alloc el51 rfl rfl trivial rfl (fun bx => ?_)
     refine .nil ?_
     refine HeldK.backS (fun _ hw => hw.pick [8] (by decide) rfl rfl) ?_
     exact HeldK.toD hH (hD4 c1 hc1 c2 hc2 bx) slr (fun w hw => hw.pick [0, 1, 2, 3, 4, 5, 6, 7, 8, 9, 10, 11] (by decide) rfl rfl)
   have hD11 : ∀ (c2 : Value) (hc2 : IsSl c2) (c3 : Value) (hc3 : IsSl c3) (bx : Nat), AK ⟨Try.prog, Try.f13.ntmps, w, fun _ => False⟩ ⟨[(12, .pointer (some ⟨bx12, 0, none⟩)), (1, .int .i64 wh), (2, .int .i64 pa), (3, .int .i64 tt), (4, sv l), (5, .pointer (some ⟨bx5, 0, none⟩)), (11, .pointer (some ⟨bx11, 0, none⟩)), (48, mS), (52, vA), (50, c2), (56, vT), (54, c3), (14, .pointer (some ⟨bx, 0, none⟩))], ([box bx5 25 4 [.int .i64 d.L, .int .i64 d.s, vF, vN]] ++ dfaO 4 3 26 mF mN mrs (MinV d) ++ [row mS 3 1 (MapV d).length ((MapV d).map (Value.int .i64)), row vA 9 1 (AccX d).length ((AccX d).map sv), row vT 9 1 ts.length (ts.map sv), box bx11 25 4 [.int .i64 (MinV d).L, .int .i64 (MinV d).s, mF, mN], box bx12 51 3 [mS, vA, vT]] ++ [row c2 9 1 0 [], row c3 9 1 0 [], box bx 51 3 [.slice none 0 0, .slice none 0 0, .slice none 0 0]])⟩ (H 6 (lb 15 10102)) := by
    intro c2 hc2 c3 hc3 bx
    refine HeldK.fromD hH ?_
    refine HeldK.one 0 (fuel := 5) (listed' := (lb 15 10103)) krf rfl krf ?_
    refine AK.lit (xs := []) sl26 el3 rfl rfl rfl (by intro a ha; cases ha) (by decide) (by decide) trivial rfl (fun c1 => ?_)
    refine AK.shape 12 rfl (fun hc1 => ?_)
    refine .nil ?_
    refine HeldK.backS (fun _ hw => hw.pick [8] (by decide) rfl rfl) ?_
    exact HeldK.toD hH (hD6 c1 hc1 c2 hc2 c3 hc3 bx) slr (fun w hw => hw.pick [0, 1, 2, 3, 4, 5, 6, 7, 8, 12, 9, 10, 11] (by decide) rfl rfl)
   have hD12 : ∀ (c1 : Value) (hc1 : IsSl c1) (c3 : Value) (hc3 : IsSl c3) (bx : Nat), AK ⟨Try.prog, Try.f13.ntmps, w, fun _ => False⟩ ⟨[(12, .pointer (some ⟨bx12, 0, none⟩)), (1, .int .i64 wh), (2, .int .i64 pa), (3, .int .i64 tt), (4, sv l), (5, .pointer (some ⟨bx5, 0, none⟩)), (11, .pointer (some ⟨bx11, 0, none⟩)), (48, mS), (46, c1), (52, vA), (56, vT), (54, c3), (14, .pointer (some ⟨bx, 0, none⟩))], ([box bx5 25 4 [.int .i64 d.L, .int .i64 d.s, vF, vN]] ++ dfaO 4 3 26 mF mN mrs (MinV d) ++ [row mS 3 1 (MapV d).length ((MapV d).map (Value.int .i64)), row vA 9 1 (AccX d).length ((AccX d).map sv), row vT 9 1 ts.length (ts.map sv), box bx11 25 4 [.int .i64 (MinV d).L, .int .i64 (MinV d).s, mF, mN], box bx12 51 3 [mS, vA, vT]] ++ [row c1 3 1 0 [], row c3 9 1 0 [], box bx 51 3 [.slice none 0 0, .slice none 0 0, .slice none 0 0]])⟩ (H 6 (lb 15 10087)) := by
    intro c1 hc1 c3 hc3 bx
    refine HeldK.fromD hH ?_
    refine HeldK.two 3 4 (fuel := 5) (listed1 := (lb 15 10095)) (listed2 := (lb 15 10103)) krf rfl rfl krf krf ?_ ?_
    ·refine AK.appendH 9 rfl sl26 el3 rfl (by decide) rfl rfl rfl rdp (one'_map _ (fun _ => rfl) _) (by omega) (by omega) trivial rfl (fun c1 hc1 => ?_)
     refine AK.snd2 9 rfl ?_
     refine .nil ?_
     refine HeldK.backS (fun _ hw => hw.pick [8] (by decide) rfl rfl) ?_
     exact HeldK.toD hH (hD7 c1 hc1 c3 hc3 bx) slr (fun w hw => hw.pick [0, 1, 2, 3, 4, 5, 6, 7, 8, 9, 10, 11] (by decide) rfl rfl)
    ·refine AK.lit (xs := []) sl49 el9 rfl rfl rfl (by intro a ha; cases ha) (by decide) (by decide) trivial rfl (fun c2 => ?_)
     refine AK.shape 12 rfl (fun hc2 => ?_)
     refine .nil ?_
     refine HeldK.backS (fun _ hw => hw.pick [8] (by decide) rfl rfl) ?_
     exact HeldK.toD hH (hD6 c1 hc1 c2 hc2 c3 hc3 bx) slr (fun w hw => hw.pick [0, 1, 2, 3, 4, 5, 6, 7, 8, 9, 12, 10, 11] (by decide) rfl rfl)
   have hD13 : ∀ (c1 : Value) (hc1 : IsSl c1) (c2 : Value) (hc2 : IsSl c2) (bx : Nat), AK ⟨Try.prog, Try.f13.ntmps, w, fun _ => False⟩ ⟨[(12, .pointer (some ⟨bx12, 0, none⟩)), (1, .int .i64 wh), (2, .int .i64 pa), (3, .int .i64 tt), (4, sv l), (5, .pointer (some ⟨bx5, 0, none⟩)), (11, .pointer (some ⟨bx11, 0, none⟩)), (48, mS), (46, c1), (52, vA), (50, c2), (56, vT), (14, .pointer (some ⟨bx, 0, none⟩))], ([box bx5 25 4 [.int .i64 d.L, .int .i64 d.s, vF, vN]] ++ dfaO 4 3 26 mF mN mrs (MinV d) ++ [row mS 3 1 (MapV d).length ((MapV d).map (Value.int .i64)), row vA 9 1 (AccX d).length ((AccX d).map sv), row vT 9 1 ts.length (ts.map sv), box bx11 25 4 [.int .i64 (MinV d).L, .int .i64 (MinV d).s, mF, mN], box bx12 51 3 [mS, vA, vT]] ++ [row c1 3 1 0 [], row c2 9 1 0 [], box bx 51 3 [.slice none 0 0, .slice none 0 0, .slice none 0 0]])⟩ (H 6 (lb 15 9847)) := by
    intro c1 hc1 c2 hc2 bx
    refine HeldK.fromD hH ?_
    refine HeldK.two 3 8 (fuel := 5) (listed1 := (lb 15 9855)) (listed2 := (lb 15 10103)) krf rfl rfl krf krf ?_ ?_
    ·refine AK.appendH 9 rfl sl26 el3 rfl (by decide) rfl rfl rfl rdp (one'_map _ (fun _ => rfl) _) (by omega) (by omega) trivial rfl (fun c1 hc1 => ?_)
     refine AK.snd2 9 rfl ?_
     refine .nil ?_
     refine HeldK.backS (fun _ hw => hw.pick [8] (by decide) rfl rfl) ?_
     exact HeldK.toD hH (hD8 c1 hc1 c2 hc2 bx) slr (fun w hw => hw.pick [0, 1, 2, 3, 4, 5, 6, 7, 8, 9, 10, 11] (by decide) rfl rfl)
    ·refine AK.lit (xs := []) sl49 el9 rfl rfl rfl (by intro a ha; cases ha) (by decide) (by decide) trivial rfl (fun c3 => ?_)
     refine AK.shape 12 rfl (fun hc3 => ?_)
     refine .nil ?_
     refine HeldK.backS (fun _ hw => hw.pick [8] (by decide) rfl rfl) ?_
     exact HeldK.toD hH (hD6 c1 hc1 c2 hc2 c3 hc3 bx) slr (fun w hw => hw.pick [0, 1, 2, 3, 4, 5, 6, 7, 8, 9, 10, 12, 11] (by decide) rfl rfl)
   have hD14 : ∀ (c1 : Value) (hc1 : IsSl c1) (bx : Nat), AK ⟨Try.prog, Try.f13.ntmps, w, fun _ => False⟩ ⟨[(12, .pointer (some ⟨bx12, 0, none⟩)), (1, .int .i64 wh), (2, .int .i64 pa), (3, .int .i64 tt), (4, sv l), (5, .pointer (some ⟨bx5, 0, none⟩)), (11, .pointer (some ⟨bx11, 0, none⟩)), (49, c1), (52, vA), (56, vT), (14, .pointer (some ⟨bx, 0, none⟩))], ([box bx5 25 4 [.int .i64 d.L, .int .i64 d.s, vF, vN]] ++ dfaO 4 3 26 mF mN mrs (MinV d) ++ [row mS 3 1 (MapV d).length ((MapV d).map (Value.int .i64)), row vA 9 1 (AccX d).length ((AccX d).map sv), row vT 9 1 ts.length (ts.map sv), box bx11 25 4 [.int .i64 (MinV d).L, .int .i64 (MinV d).s, mF, mN], box bx12 51 3 [mS, vA, vT]] ++ [row c1 3 1 (0 + (MapV d).length) ((MapV d).map (Value.int .i64)), box bx 51 3 [.slice none 0 0, .slice none 0 0, .slice none 0 0]])⟩ (H 6 (lb 15 9839)) := by
    intro c1 hc1 bx
    refine HeldK.fromD hH ?_
    refine HeldK.two 4 8 (fuel := 5) (listed1 := (lb 15 9855)) (listed2 := (lb 15 10095)) krf rfl rfl krf krf ?_ ?_
    ·refine AK.lit (xs := []) sl49 el9 rfl rfl rfl (by intro a ha; cases ha) (by decide) (by decide) trivial rfl (fun c2 => ?_)
     refine AK.shape 11 rfl (fun hc2 => ?_)
     refine .nil ?_
     refine HeldK.backS (fun _ hw => hw.pick [8] (by decide) rfl rfl) ?_
     exact HeldK.toD hH (hD8 c1 hc1 c2 hc2 bx) slr (fun w hw => hw.pick [0, 1, 2, 3, 4, 5, 6, 7, 8, 9, 11, 10] (by decide) rfl rfl)
    ·refine AK.lit (xs := []) sl49 el9 rfl rfl rfl (by intro a ha; cases ha) (by decide) (by decide) trivial rfl (fun c3 => ?_)
     refine AK.shape 11 rfl (fun hc3 => ?_)
     refine .nil ?_
     refine HeldK.backS (fun _ hw => hw.pick [8] (by decide) rfl rfl) ?_
     exact HeldK.toD hH (hD7 c1 hc1 c3 hc3 bx) slr (fun w hw => hw.pick [0, 1, 2, 3, 4, 5, 6, 7, 8, 9, 11, 10] (by decide) rfl rfl)
   have hD15 : ∀ (c1 : Value) (hc1 : IsSl c1) (c2 : Value) (hc2 : IsSl c2) (c3 : Value) (hc3 : IsSl c3), AK ⟨Try.prog, Try.f13.ntmps, w, fun _ => False⟩ ⟨[(12, .pointer (some ⟨bx12, 0, none⟩)), (1, .int .i64 wh), (2, .int .i64 pa), (3, .int .i64 tt), (4, sv l), (5, .pointer (some ⟨bx5, 0, none⟩)), (11, .pointer (some ⟨bx11, 0, none⟩)), (48, mS), (46, c1), (52, vA), (50, c2), (56, vT), (54, c3)], ([box bx5 25 4 [.int .i64 d.L, .int .i64 d.s, vF, vN]] ++ dfaO 4 3 26 mF mN mrs (MinV d) ++ [row mS 3 1 (MapV d).length ((MapV d).map (Value.int .i64)), row vA 9 1 (AccX d).length ((AccX d).map sv), row vT 9 1 ts.length (ts.map sv), box bx11 25 4 [.int .i64 (MinV d).L, .int .i64 (MinV d).s, mF, mN], box bx12 51 3 [mS, vA, vT]] ++ [row c1 3 1 0 [], row c2 9 1 0 [], row c3 9 1 0 []])⟩ (H 6 (lb 15 1911)) := by
    intro c1 hc1 c2 hc2 c3 hc3
    refine HeldK.fromD hH ?_
    refine HeldK.two 3 13 (fuel := 5) (listed1 := (lb 15 1919)) (listed2 := (lb 15 10103)) krf rfl rfl krf krf ?_ ?_
    ·refine AK.appendH 9 rfl sl26 el3 rfl (by decide) rfl rfl rfl rdp (one'_map _ (fun _ => rfl) _) (by omega) (by omega) trivial rfl (fun c1 hc1 => ?_)
     refine AK.snd2 9 rfl ?_
     refine .nil ?_
     refine HeldK.backS (fun _ hw => hw.pick [8] (by decide) rfl rfl) ?_
     exact HeldK.toD hH (hD9 c1 hc1 c2 hc2 c3 hc3) slr (fun w hw => hw.pick [0, 1, 2, 3, 4, 5, 6, 7, 8, 9, 10, 11] (by decide) rfl rfl)
    ·refine AK.alloc el51 rfl rfl trivial rfl (fun bx => ?_)
     refine .nil ?_
     refine HeldK.backS (fun _ hw => hw.pick [8] (by decide) rfl rfl) ?_
     exact HeldK.toD hH (hD6 c1 hc1 c2 hc2 c3 hc3 bx) slr (fun w hw => hw.pick [0, 1, 2, 3, 4, 5, 6, 7, 8, 9, 10, 11, 12] (by decide) rfl rfl)
   have hD16 : ∀ (c1 : Value) (hc1 : IsSl c1) (c3 : Value) (hc3 : IsSl c3), AK ⟨Try.prog, Try.f13.ntmps, w, fun _ => False⟩ ⟨[(12, .pointer (some ⟨bx12, 0, none⟩)), (1, .int .i64 wh), (2, .int .i64 pa), (3, .int .i64 tt), (4, sv l), (5, .pointer (some ⟨bx5, 0, none⟩)), (11, .pointer (some ⟨bx11, 0, none⟩)), (49, c1), (52, vA), (56, vT), (54, c3)], ([box bx5 25 4 [.int .i64 d.L, .int .i64 d.s, vF, vN]] ++ dfaO 4 3 26 mF mN mrs (MinV d) ++ [row mS 3 1 (MapV d).length ((MapV d).map (Value.int .i64)), row vA 9 1 (AccX d).length ((AccX d).map sv), row vT 9 1 ts.length (ts.map sv), box bx11 25 4 [.int .i64 (MinV d).L, .int .i64 (MinV d).s, mF, mN], box bx12 51 3 [mS, vA, vT]] ++ [row c1 3 1 (0 + (MapV d).length) ((MapV d).map (Value.int .i64)), row c3 9 1 0 []])⟩ (H 6 (lb 15 1903)) := by
    intro c1 hc1 c3 hc3
    refine HeldK.fromD hH ?_
    refine HeldK.two 4 13 (fuel := 5) (listed1 := (lb 15 1919)) (listed2 := (lb 15 10095)) krf rfl rfl krf krf ?_ ?_
    ·refine AK.lit (xs := []) sl49 el9 rfl rfl rfl (by intro a ha; cases ha) (by decide) (by decide) trivial rfl (fun c2 => ?_)
     refine AK.shape 11 rfl (fun hc2 => ?_)
     refine .nil ?_
     refine HeldK.backS (fun _ hw => hw.pick [8] (by decide) rfl rfl) ?_
     exact HeldK.toD hH (hD9 c1 hc1 c2 hc2 c3 hc3) slr (fun w hw => hw.pick [0, 1, 2, 3, 4, 5, 6, 7, 8, 9, 11, 10] (by decide) rfl rfl)
    ·refine AK.alloc el51 rfl rfl trivial rfl (fun bx => ?_)
     refine .nil ?_
     refine HeldK.backS (fun _ hw => hw.pick [8] (by decide) rfl rfl) ?_
     exact HeldK.toD hH (hD7 c1 hc1 c3 hc3 bx) slr (fun w hw => hw.pick [0, 1, 2, 3, 4, 5, 6, 7, 8, 9, 10, 11] (by decide) rfl rfl)
   have hD17 : ∀ (c1 : Value) (hc1 : IsSl c1) (c2 : Value) (hc2 : IsSl c2), AK ⟨Try.prog, Try.f13.ntmps, w, fun _ => False⟩ ⟨[(12, .pointer (some ⟨bx12, 0, none⟩)), (1, .int .i64 wh), (2, .int .i64 pa), (3, .int .i64 tt), (4, sv l), (5, .pointer (some ⟨bx5, 0, none⟩)), (11, .pointer (some ⟨bx11, 0, none⟩)), (49, c1), (52, vA), (50, c2), (56, vT)], ([box bx5 25 4 [.int .i64 d.L, .int .i64 d.s, vF, vN]] ++ dfaO 4 3 26 mF mN mrs (MinV d) ++ [row mS 3 1 (MapV d).length ((MapV d).map (Value.int .i64)), row vA 9 1 (AccX d).length ((AccX d).map sv), row vT 9 1 ts.length (ts.map sv), box bx11 25 4 [.int .i64 (MinV d).L, .int .i64 (MinV d).s, mF, mN], box bx12 51 3 [mS, vA, vT]] ++ [row c1 3 1 (0 + (MapV d).length) ((MapV d).map (Value.int .i64)), row c2 9 1 0 []])⟩ (H 6 (lb 15 1663)) := by
    intro c1 hc1 c2 hc2
    refine HeldK.fromD hH ?_
    refine HeldK.three 7 8 13 (fuel := 5) (listed1 := (lb 15 1791)) (listed2 := (lb 15 1919)) (listed3 := (lb 15 9855)) krf rfl rfl rfl krf krf krf ?_ ?_ ?_
    ·refine AK.appendH 10 rfl sl49 el9 rfl (by decide) rfl rfl rfl rdp (one'_map _ (fun _ => rfl) _) (by omega) (by omega) trivial rfl (fun c2 hc2 => ?_)
     refine AK.snd2 10 rfl ?_
     refine .nil ?_
     refine HeldK.backS (fun _ hw => hw.pick [8] (by decide) rfl rfl) ?_
     exact HeldK.toD hH (hD10 c1 hc1 c2 hc2) slr (fun w hw => hw.pick [0, 1, 2, 3, 4, 5, 6, 7, 8, 9, 10] (by decide) rfl rfl)
    ·refine AK.lit (xs := []) sl49 el9 rfl rfl rfl (by intro a ha; cases ha) (by decide) (by decide) trivial rfl (fun c3 => ?_)
     refine AK.shape 11 rfl (fun hc3 => ?_)
     refine .nil ?_
     refine HeldK.backS (fun _ hw => hw.pick [8] (by decide) rfl rfl) ?_
     exact HeldK.toD hH (hD9 c1 hc1 c2 hc2 c3 hc3) slr (fun w hw => hw.pick [0, 1, 2, 3, 4, 5, 6, 7, 8, 9, 10, 11] (by decide) rfl rfl)
    ·refine AK.alloc el51 rfl rfl trivial rfl (fun bx => ?_)
     refine .nil ?_
     refine HeldK.backS (fun _ hw => hw.pick [8] (by decide) rfl rfl) ?_
     exact HeldK.toD hH (hD8 c1 hc1 c2 hc2 bx) slr (fun w hw => hw.pick [0, 1, 2, 3, 4, 5, 6, 7, 8, 9, 10, 11] (by decide) rfl rfl)
   have hD18 : ∀ (c3 : Value) (hc3 : IsSl c3) (bx : Nat), AK ⟨Try.prog, Try.f13.ntmps, w, fun _ => False⟩ ⟨[(12, .pointer (some ⟨bx12, 0, none⟩)), (1, .int .i64 wh), (2, .int .i64 pa), (3, .int .i64 tt), (4, sv l), (5, .pointer (some ⟨bx5, 0, none⟩)), (11, .pointer (some ⟨bx11, 0, none⟩)), (48, mS), (52, vA), (56, vT), (54, c3), (14, .pointer (some ⟨bx, 0, none⟩))], ([box bx5 25 4 [.int .i64 d.L, .int .i64 d.s, vF, vN]] ++ dfaO 4 3 26 mF mN mrs (MinV d) ++ [row mS 3 1 (MapV d).length ((MapV d).map (Value.int .i64)), row vA 9 1 (AccX d).length ((AccX d).map sv), row vT 9 1 ts.length (ts.map sv), box bx11 25 4 [.int .i64 (MinV d).L, .int .i64 (MinV d).s, mF, mN], box bx12 51 3 [mS, vA, vT]] ++ [row c3 9 1 0 [], box bx 51 3 [.slice none 0 0, .slice none 0 0, .slice none 0 0]])⟩ (H 7 (lb 15 10086)) := by
    intro c3 hc3 bx
    refine HeldK.fromD hH ?_
    refine HeldK.two 0 4 (fuel := 6) (listed1 := (lb 15 10087)) (listed2 := (lb 15 10102)) krf rfl rfl krf krf ?_ ?_
    ·refine AK.lit (xs := []) sl26 el3 rfl rfl rfl (by intro a ha; cases ha) (by decide) (by decide) trivial rfl (fun c1 => ?_)
     refine AK.shape 11 rfl (fun hc1 => ?_)
     refine .nil ?_
     refine HeldK.backS (fun _ hw => hw.pick [8] (by decide) rfl rfl) ?_
     exact HeldK.toD hH (hD12 c1 hc1 c3 hc3 bx) slr (fun w hw => hw.pick [0, 1, 2, 3, 4, 5, 6, 7, 8, 11, 9, 10] (by decide) rfl rfl)
    ·refine AK.lit (xs := []) sl49 el9 rfl rfl rfl (by intro a ha; cases ha) (by decide) (by decide) trivial rfl (fun c2 => ?_)
     refine AK.shape 11 rfl (fun hc2 => ?_)
     refine .nil ?_
     refine HeldK.backS (fun _ hw => hw.pick [8] (by decide) rfl rfl) ?_
     exact HeldK.toD hH (hD11 c2 hc2 c3 hc3 bx) slr (fun w hw => hw.pick [0, 1, 2, 3, 4, 5, 6, 7, 8, 11, 9, 10] (by decide) rfl rfl)
   have hD19 : ∀ (c2 : Value) (hc2 : IsSl c2) (bx : Nat), AK ⟨Try.prog, Try.f13.ntmps, w, fun _ => False⟩ ⟨[(12, .pointer (some ⟨bx12, 0, none⟩)), (1, .int .i64 wh), (2, .int .i64 pa), (3, .int .i64 tt), (4, sv l), (5, .pointer (some ⟨bx5, 0, none⟩)), (11, .pointer (some ⟨bx11, 0, none⟩)), (48, mS), (52, vA), (50, c2), (56, vT), (14, .pointer (some ⟨bx, 0, none⟩))], ([box bx5 25 4 [.int .i64 d.L, .int .i64 d.s, vF, vN]] ++ dfaO 4 3 26 mF mN mrs (MinV d) ++ [row mS 3 1 (MapV d).length ((MapV d).map (Value.int .i64)), row vA 9 1 (AccX d).length ((AccX d).map sv), row vT 9 1 ts.length (ts.map sv), box bx11 25 4 [.int .i64 (MinV d).L, .int .i64 (MinV d).s, mF, mN], box bx12 51 3 [mS, vA, vT]] ++ [row c2 9 1 0 [], box bx 51 3 [.slice none 0 0, .slice none 0 0, .slice none 0 0]])⟩ (H 7 (lb 15 9846)) := by
    intro c2 hc2 bx
    refine HeldK.fromD hH ?_
    refine HeldK.two 0 8 (fuel := 6) (listed1 := (lb 15 9847)) (listed2 := (lb 15 10102)) krf rfl rfl krf krf ?_ ?_
    ·refine AK.lit (xs := []) sl26 el3 rfl rfl rfl (by intro a ha; cases ha) (by decide) (by decide) trivial rfl (fun c1 => ?_)
     refine AK.shape 11 rfl (fun hc1 => ?_)
     refine .nil ?_
     refine HeldK.backS (fun _ hw => hw.pick [8] (by decide) rfl rfl) ?_
     exact HeldK.toD hH (hD13 c1 hc1 c2 hc2 bx) slr (fun w hw => hw.pick [0, 1, 2, 3, 4, 5, 6, 7, 8, 11, 9, 10] (by decide) rfl rfl)
    ·refine AK.lit (xs := []) sl49 el9 rfl rfl rfl (by intro a ha; cases ha) (by decide) (by decide) trivial rfl (fun c3 => ?_)
     refine AK.shape 11 rfl (fun hc3 => ?_)
     refine .nil ?_
     refine HeldK.backS (fun _ hw => hw.pick [8] (by decide) rfl rfl) ?_
     exact HeldK.toD hH (hD11 c2 hc2 c3 hc3 bx) slr (fun w hw => hw.pick [0, 1, 2, 3, 4, 5, 6, 7, 8, 9, 11, 10] (by decide) rfl rfl)
   have hD20 : ∀ (c1 : Value) (hc1 : IsSl c1) (bx : Nat), AK ⟨Try.prog, Try.f13.ntmps, w, fun _ => False⟩ ⟨[(12, .pointer (some ⟨bx12, 0, none⟩)), (1, .int .i64 wh), (2, .int .i64 pa), (3, .int .i64 tt), (4, sv l), (5, .pointer (some ⟨bx5, 0, none⟩)), (11, .pointer (some ⟨bx11, 0, none⟩)), (48, mS), (46, c1), (52, vA), (56, vT), (14, .pointer (some ⟨bx, 0, none⟩))], ([box bx5 25 4 [.int .i64 d.L, .int .i64 d.s, vF, vN]] ++ dfaO 4 3 26 mF mN mrs (MinV d) ++ [row mS 3 1 (MapV d).length ((MapV d).map (Value.int .i64)), row vA 9 1 (AccX d).length ((AccX d).map sv), row vT 9 1 ts.length (ts.map sv), box bx11 25 4 [.int .i64 (MinV d).L, .int .i64 (MinV d).s, mF, mN], box bx12 51 3 [mS, vA, vT]] ++ [row c1 3 1 0 [], box bx 51 3 [.slice none 0 0, .slice none 0 0, .slice none 0 0]])⟩ (H 7 (lb 15 9831)) := by
    intro c1 hc1 bx
    refine HeldK.fromD hH ?_
    refine HeldK.three 3 4 8 (fuel := 6) (listed1 := (lb 15 9839)) (listed2 := (lb 15 9847)) (listed3 := (lb 15 10087)) krf rfl rfl rfl krf krf krf ?_ ?_ ?_
    ·refine AK.appendH 9 rfl sl26 el3 rfl (by decide) rfl rfl rfl rdp (one'_map _ (fun _ => rfl) _) (by omega) (by omega) trivial rfl (fun c1 hc1 => ?_)
     refine AK.snd2 9 rfl ?_
     refine .nil ?_
     refine HeldK.backS (fun _ hw => hw.pick [8] (by decide) rfl rfl) ?_
     exact HeldK.toD hH (hD14 c1 hc1 bx) slr (fun w hw => hw.pick [0, 1, 2, 3, 4, 5, 6, 7, 8, 9, 10] (by decide) rfl rfl)
    ·refine AK.lit (xs := []) sl49 el9 rfl rfl rfl (by intro a ha; cases ha) (by decide) (by decide) trivial rfl (fun c2 => ?_)
     refine AK.shape 11 rfl (fun hc2 => ?_)
     refine .nil ?_
     refine HeldK.backS (fun _ hw => hw.pick [8] (by decide) rfl rfl) ?_
     exact HeldK.toD hH (hD13 c1 hc1 c2 hc2 bx) slr (fun w hw => hw.pick [0, 1, 2, 3, 4, 5, 6, 7, 8, 9, 11, 10] (by decide) rfl rfl)
    ·refine AK.lit (xs := []) sl49 el9 rfl rfl rfl (by intro a ha; cases ha) (by decide) (by decide) trivial rfl (fun c3 => ?_)
     refine AK.shape 11 rfl (fun hc3 => ?_)
     refine .nil ?_
     refine HeldK.backS (fun _ hw => hw.pick [8] (by decide) rfl rfl) ?_
     exact HeldK.toD hH (hD12 c1 hc1 c3 hc3 bx) slr (fun w hw => hw.pick [0, 1, 2, 3, 4, 5, 6, 7, 8, 9, 11, 10] (by decide) rfl rfl)
   have hD21 : ∀ (c2 : Value) (hc2 : IsSl c2) (c3 : Value) (hc3 : IsSl c3), AK ⟨Try.prog, Try.f13.ntmps, w, fun _ => False⟩ ⟨[(12, .pointer (some ⟨bx12, 0, none⟩)), (1, .int .i64 wh), (2, .int .i64 pa), (3, .int .i64 tt), (4, sv l), (5, .pointer (some ⟨bx5, 0, none⟩)), (11, .pointer (some ⟨bx11, 0, none⟩)), (48, mS), (52, vA), (50, c2), (56, vT), (54, c3)], ([box bx5 25 4 [.int .i64 d.L, .int .i64 d.s, vF, vN]] ++ dfaO 4 3 26 mF mN mrs (MinV d) ++ [row mS 3 1 (MapV d).length ((MapV d).map (Value.int .i64)), row vA 9 1 (AccX d).length ((AccX d).map sv), row vT 9 1 ts.length (ts.map sv), box bx11 25 4 [.int .i64 (MinV d).L, .int .i64 (MinV d).s, mF, mN], box bx12 51 3 [mS, vA, vT]] ++ [row c2 9 1 0 [], row c3 9 1 0 []])⟩ (H 7 (lb 15 1910)) := by
    intro c2 hc2 c3 hc3
    refine HeldK.fromD hH ?_
    refine HeldK.two 0 13 (fuel := 6) (listed1 := (lb 15 1911)) (listed2 := (lb 15 10102)) krf rfl rfl krf krf ?_ ?_
    ·refine AK.lit (xs := []) sl26 el3 rfl rfl rfl (by intro a ha; cases ha) (by decide) (by decide) trivial rfl (fun c1 => ?_)
     refine AK.shape 11 rfl (fun hc1 => ?_)
     refine .nil ?_
     refine HeldK.backS (fun _ hw => hw.pick [8] (by decide) rfl rfl) ?_
     exact HeldK.toD hH (hD15 c1 hc1 c2 hc2 c3 hc3) slr (fun w hw => hw.pick [0, 1, 2, 3, 4, 5, 6, 7, 8, 11, 9, 10] (by decide) rfl rfl)
    ·refine AK.alloc el51 rfl rfl trivial rfl (fun bx => ?_)
     refine .nil ?_
     refine HeldK.backS (fun _ hw => hw.pick [8] (by decide) rfl rfl) ?_
     exact HeldK.toD hH (hD11 c2 hc2 c3 hc3 bx) slr (fun w hw => hw.pick [0, 1, 2, 3, 4, 5, 6, 7, 8, 9, 10, 11] (by decide) rfl rfl)
   have hD22 : ∀ (c1 : Value) (hc1 : IsSl c1) (c3 : Value) (hc3 : IsSl c3), AK ⟨Try.prog, Try.f13.ntmps, w, fun _ => False⟩ ⟨[(12, .pointer (some ⟨bx12, 0, none⟩)), (1, .int .i64 wh), (2, .int .i64 pa), (3, .int .i64 tt), (4, sv l), (5, .pointer (some ⟨bx5, 0, none⟩)), (11, .pointer (some ⟨bx11, 0, none⟩)), (48, mS), (46, c1), (52, vA), (56, vT), (54, c3)], ([box bx5 25 4 [.int .i64 d.L, .int .i64 d.s, vF, vN]] ++ dfaO 4 3 26 mF mN mrs (MinV d) ++ [row mS 3 1 (MapV d).length ((MapV d).map (Value.int .i64)), row vA 9 1 (AccX d).length ((AccX d).map sv), row vT 9 1 ts.length (ts.map sv), box bx11 25 4 [.int .i64 (MinV d).L, .int .i64 (MinV d).s, mF, mN], box bx12 51 3 [mS, vA, vT]] ++ [row c1 3 1 0 [], row c3 9 1 0 []])⟩ (H 7 (lb 15 1895)) := by
    intro c1 hc1 c3 hc3
    refine HeldK.fromD hH ?_
    refine HeldK.three 3 4 13 (fuel := 6) (listed1 := (lb 15 1903)) (listed2 := (lb 15 1911)) (listed3 := (lb 15 10087)) krf rfl rfl rfl krf krf krf ?_ ?_ ?_
    ·refine AK.appendH 9 rfl sl26 el3 rfl (by decide) rfl rfl rfl rdp (one'_map _ (fun _ => rfl) _) (by omega) (by omega) trivial rfl (fun c1 hc1 => ?_)
     refine AK.snd2 9 rfl ?_
     refine .nil ?_
     refine HeldK.backS (fun _ hw => hw.pick [8] (by decide) rfl rfl) ?_
     exact HeldK.toD hH (hD16 c1 hc1 c3 hc3) slr (fun w hw => hw.pick [0, 1, 2, 3, 4, 5, 6, 7, 8, 9, 10] (by decide) rfl rfl)
    ·refine AK.lit (xs := []) sl49 el9 rfl rfl rfl (by intro a ha; cases ha) (by decide) (by decide) trivial rfl (fun c2 => ?_)
     refine AK.shape 11 rfl (fun hc2 => ?_)
     refine .nil ?_
     refine HeldK.backS (fun _ hw => hw.pick [8] (by decide) rfl rfl) ?_
     exact HeldK.toD hH (hD15 c1 hc1 c2 hc2 c3 hc3) slr (fun w hw => hw.pick [0, 1, 2, 3, 4, 5, 6, 7, 8, 9, 11, 10] (by decide) rfl rfl)
    ·refine AK.alloc el51 rfl rfl trivial rfl (fun bx => ?_)
     refine .nil ?_
     refine HeldK.backS (fun _ hw => hw.pick [8] (by decide) rfl rfl) ?_
     exact HeldK.toD hH (hD12 c1 hc1 c3 hc3 bx) slr (fun w hw => hw.pick [0, 1, 2, 3, 4, 5, 6, 7, 8, 9, 10, 11] (by decide) rfl rfl)
   have hD23 : ∀ (c1 : Value) (hc1 : IsSl c1) (c2 : Value) (hc2 : IsSl c2), AK ⟨Try.prog, Try.f13.ntmps, w, fun _ => False⟩ ⟨[(12, .pointer (some ⟨bx12, 0, none⟩)), (1, .int .i64 wh), (2, .int .i64 pa), (3, .int .i64 tt), (4, sv l), (5, .pointer (some ⟨bx5, 0, none⟩)), (11, .pointer (some ⟨bx11, 0, none⟩)), (48, mS), (46, c1), (52, vA), (50, c2), (56, vT)], ([box bx5 25 4 [.int .i64 d.L, .int .i64 d.s, vF, vN]] ++ dfaO 4 3 26 mF mN mrs (MinV d) ++ [row mS 3 1 (MapV d).length ((MapV d).map (Value.int .i64)), row vA 9 1 (AccX d).length ((AccX d).map sv), row vT 9 1 ts.length (ts.map sv), box bx11 25 4 [.int .i64 (MinV d).L, .int .i64 (MinV d).s, mF, mN], box bx12 51 3 [mS, vA, vT]] ++ [row c1 3 1 0 [], row c2 9 1 0 []])⟩ (H 7 (lb 15 1655)) := by
    intro c1 hc1 c2 hc2
    refine HeldK.fromD hH ?_
    refine HeldK.three 3 8 13 (fuel := 6) (listed1 := (lb 15 1663)) (listed2 := (lb 15 1911)) (listed3 := (lb 15 9847)) krf rfl rfl rfl krf krf krf ?_ ?_ ?_
    ·refine AK.appendH 9 rfl sl26 el3 rfl (by decide) rfl rfl rfl rdp (one'_map _ (fun _ => rfl) _) (by omega) (by omega) trivial rfl (fun c1 hc1 => ?_)
     refine AK.snd2 9 rfl ?_
     refine .nil ?_
     refine HeldK.backS (fun _ hw => hw.pick [8] (by decide) rfl rfl) ?_
     exact HeldK.toD hH (hD17 c1 hc1 c2 hc2) slr (fun w hw => hw.pick [0, 1, 2, 3, 4, 5, 6, 7, 8, 9, 10] (by decide) rfl rfl)
    ·refine AK.lit (xs := []) sl49 el9 rfl rfl rfl (by intro a ha; cases ha) (by decide) (by decide) trivial rfl (fun c3 => ?_)
     refine AK.shape 11 rfl (fun hc3 => ?_)
     refine .nil ?_
     refine HeldK.backS (fun _ hw => hw.pick [8] (by decide) rfl rfl) ?_
     exact HeldK.toD hH (hD15 c1 hc1 c2 hc2 c3 hc3) slr (fun w hw => hw.pick [0, 1, 2, 3, 4, 5, 6, 7, 8, 9, 10, 11] (by decide) rfl rfl)
    ·refine AK.alloc el51 rfl rfl trivial rfl (fun bx => ?_)
     refine .nil ?_
     refine HeldK.backS (fun _ hw => hw.pick [8] (by decide) rfl rfl) ?_
     exact HeldK.toD hH (hD13 c1 hc1 c2 hc2 bx) slr (fun w hw => hw.pick [0, 1, 2, 3, 4, 5, 6, 7, 8, 9, 10, 11] (by decide) rfl rfl)
   have hD24 : ∀ (c1 : Value) (hc1 : IsSl c1), AK ⟨Try.prog, Try.f13.ntmps, w, fun _ => False⟩ ⟨[(12, .pointer (some ⟨bx12, 0, none⟩)), (1, .int .i64 wh), (2, .int .i64 pa), (3, .int .i64 tt), (4, sv l), (5, .pointer (some ⟨bx5, 0, none⟩)), (11, .pointer (some ⟨bx11, 0, none⟩)), (49, c1), (52, vA), (56, vT)], ([box bx5 25 4 [.int .i64 d.L, .int .i64 d.s, vF, vN]] ++ dfaO 4 3 26 mF mN mrs (MinV d) ++ [row mS 3 1 (MapV d).length ((MapV d).map (Value.int .i64)), row vA 9 1 (AccX d).length ((AccX d).map sv), row vT 9 1 ts.length (ts.map sv), box bx11 25 4 [.int .i64 (MinV d).L, .int .i64 (MinV d).s, mF, mN], box bx12 51 3 [mS, vA, vT]] ++ [row c1 3 1 (0 + (MapV d).length) ((MapV d).map (Value.int .i64))])⟩ (H 7 (lb 15 1647)) := by
    intro c1 hc1
    refine HeldK.fromD hH ?_
    refine HeldK.three 4 8 13 (fuel := 6) (listed1 := (lb 15 1663)) (listed2 := (lb 15 1903)) (listed3 := (lb 15 9839)) krf rfl rfl rfl krf krf krf ?_ ?_ ?_
    ·refine AK.lit (xs := []) sl49 el9 rfl rfl rfl (by intro a ha; cases ha) (by decide) (by decide) trivial rfl (fun c2 => ?_)
     refine AK.shape 10 rfl (fun hc2 => ?_)
     refine .nil ?_
     refine HeldK.backS (fun _ hw => hw.pick [8] (by decide) rfl rfl) ?_
     exact HeldK.toD hH (hD17 c1 hc1 c2 hc2) slr (fun w hw => hw.pick [0, 1, 2, 3, 4, 5, 6, 7, 8, 9, 10] (by decide) rfl rfl)
    ·refine AK.lit (xs := []) sl49 el9 rfl rfl rfl (by intro a ha; cases ha) (by decide) (by decide) trivial rfl (fun c3 => ?_)
     refine AK.shape 10 rfl (fun hc3 => ?_)
     refine .nil ?_
     refine HeldK.backS (fun _ hw => hw.pick [8] (by decide) rfl rfl) ?_
     exact HeldK.toD hH (hD16 c1 hc1 c3 hc3) slr (fun w hw => hw.pick [0, 1, 2, 3, 4, 5, 6, 7, 8, 9, 10] (by decide) rfl rfl)
    ·refine AK.alloc el51 rfl rfl trivial rfl (fun bx => ?_)
     refine .nil ?_
     refine HeldK.backS (fun _ hw => hw.pick [8] (by decide) rfl rfl) ?_
     exact HeldK.toD hH (hD14 c1 hc1 bx) slr (fun w hw => hw.pick [0, 1, 2, 3, 4, 5, 6, 7, 8, 9, 10] (by decide) rfl rfl)
   have hD25 : ∀  (bx : Nat), AK ⟨Try.prog, Try.f13.ntmps, w, fun _ => False⟩ ⟨[(12, .pointer (some ⟨bx12, 0, none⟩)), (1, .int .i64 wh), (2, .int .i64 pa), (3, .int .i64 tt), (4, sv l), (5, .pointer (some ⟨bx5, 0, none⟩)), (11, .pointer (some ⟨bx11, 0, none⟩)), (48, mS), (52, vA), (56, vT), (14, .pointer (some ⟨bx, 0, none⟩))], ([box bx5 25 4 [.int .i64 d.L, .int .i64 d.s, vF, vN]] ++ dfaO 4 3 26 mF mN mrs (MinV d) ++ [row mS 3 1 (MapV d).length ((MapV d).map (Value.int .i64)), row vA 9 1 (AccX d).length ((AccX d).map sv), row vT 9 1 ts.length (ts.map sv), box bx11 25 4 [.int .i64 (MinV d).L, .int .i64 (MinV d).s, mF, mN], box bx12 51 3 [mS, vA, vT]] ++ [box bx 51 3 [.slice none 0 0, .slice none 0 0, .slice none 0 0]])⟩ (H 8 (lb 15 9830)) := by
    intro  bx
    refine HeldK.fromD hH ?_
    refine HeldK.three 0 4 8 (fuel := 7) (listed1 := (lb 15 9831)) (listed2 := (lb 15 9846)) (listed3 := (lb 15 10086)) krf rfl rfl rfl krf krf krf ?_ ?_ ?_
    ·refine AK.lit (xs := []) sl26 el3 rfl rfl rfl (by intro a ha; cases ha) (by decide) (by decide) trivial rfl (fun c1 => ?_)
     refine AK.shape 10 rfl (fun hc1 => ?_)
     refine .nil ?_
     refine HeldK.backS (fun _ hw => hw.pick [8] (by decide) rfl rfl) ?_
     exact HeldK.toD hH (hD20 c1 hc1 bx) slr (fun w hw => hw.pick [0, 1, 2, 3, 4, 5, 6, 7, 8, 10, 9] (by decide) rfl rfl)
    ·refine AK.lit (xs := []) sl49 el9 rfl rfl rfl (by intro a ha; cases ha) (by decide) (by decide) trivial rfl (fun c2 => ?_)
     refine AK.shape 10 rfl (fun hc2 => ?_)
     refine .nil ?_
     refine HeldK.backS (fun _ hw => hw.pick [8] (by decide) rfl rfl) ?_
     exact HeldK.toD hH (hD19 c2 hc2 bx) slr (fun w hw => hw.pick [0, 1, 2, 3, 4, 5, 6, 7, 8, 10, 9] (by decide) rfl rfl)
    ·refine AK.lit (xs := []) sl49 el9 rfl rfl rfl (by intro a ha; cases ha) (by decide) (by decide) trivial rfl (fun c3 => ?_)
     refine AK.shape 10 rfl (fun hc3 => ?_)
     refine .nil ?_
     refine HeldK.backS (fun _ hw => hw.pick [8] (by decide) rfl rfl) ?_
     exact HeldK.toD hH (hD18 c3 hc3 bx) slr (fun w hw => hw.pick [0, 1, 2, 3, 4, 5, 6, 7, 8, 10, 9] (by decide) rfl rfl)
   have hD26 : ∀ (c3 : Value) (hc3 : IsSl c3), AK ⟨Try.prog, Try.f13.ntmps, w, fun _ => False⟩ ⟨[(12, .pointer (some ⟨bx12, 0, none⟩)), (1, .int .i64 wh), (2, .int .i64 pa), (3, .int .i64 tt), (4, sv l), (5, .pointer (some ⟨bx5, 0, none⟩)), (11, .pointer (some ⟨bx11, 0, none⟩)), (48, mS), (52, vA), (56, vT), (54, c3)], ([box bx5 25 4 [.int .i64 d.L, .int .i64 d.s, vF, vN]] ++ dfaO 4 3 26 mF mN mrs (MinV d) ++ [row mS 3 1 (MapV d).length ((MapV d).map (Value.int .i64)), row vA 9 1 (AccX d).length ((AccX d).map sv), row vT 9 1 ts.length (ts.map sv), box bx11 25 4 [.int .i64 (MinV d).L, .int .i64 (MinV d).s, mF, mN], box bx12 51 3 [mS, vA, vT]] ++ [row c3 9 1 0 []])⟩ (H 8 (lb 15 1894)) := by
    intro c3 hc3
    refine HeldK.fromD hH ?_
    refine HeldK.three 0 4 13 (fuel := 7) (listed1 := (lb 15 1895)) (listed2 := (lb 15 1910)) (listed3 := (lb 15 10086)) krf rfl rfl rfl krf krf krf ?_ ?_ ?_
    ·refine AK.lit (xs := []) sl26 el3 rfl rfl rfl (by intro a ha; cases ha) (by decide) (by decide) trivial rfl (fun c1 => ?_)
     refine AK.shape 10 rfl (fun hc1 => ?_)
     refine .nil ?_
     refine HeldK.backS (fun _ hw => hw.pick [8] (by decide) rfl rfl) ?_
     exact HeldK.toD hH (hD22 c1 hc1 c3 hc3) slr (fun w hw => hw.pick [0, 1, 2, 3, 4, 5, 6, 7, 8, 10, 9] (by decide) rfl rfl)
    ·refine AK.lit (xs := []) sl49 el9 rfl rfl rfl (by intro a ha; cases ha) (by decide) (by decide) trivial rfl (fun c2 => ?_)
     refine AK.shape 10 rfl (fun hc2 => ?_)
     refine .nil ?_
     refine HeldK.backS (fun _ hw => hw.pick [8] (by decide) rfl rfl) ?_
     exact HeldK.toD hH (hD21 c2 hc2 c3 hc3) slr (fun w hw => hw.pick [0, 1, 2, 3, 4, 5, 6, 7, 8, 10, 9] (by decide) rfl rfl)
    ·refine AK.alloc el51 rfl rfl trivial rfl (fun bx => ?_)
     refine .nil ?_
     refine HeldK.backS (fun _ hw => hw.pick [8] (by decide) rfl rfl) ?_
     exact HeldK.toD hH (hD18 c3 hc3 bx) slr (fun w hw => hw.pick [0, 1, 2, 3, 4, 5, 6, 7, 8, 9, 10] (by decide) rfl rfl)
   have hD27 : ∀ (c2 : Value) (hc2 : IsSl c2), AK ⟨Try.prog, Try.f13.ntmps, w, fun _ => False⟩ ⟨[(12, .pointer (some ⟨bx12, 0, none⟩)), (1, .int .i64 wh), (2, .int .i64 pa), (3, .int .i64 tt), (4, sv l), (5, .pointer (some ⟨bx5, 0, none⟩)), (11, .pointer (some ⟨bx11, 0, none⟩)), (48, mS), (52, vA), (50, c2), (56, vT)], ([box bx5 25 4 [.int .i64 d.L, .int .i64 d.s, vF, vN]] ++ dfaO 4 3 26 mF mN mrs (MinV d) ++ [row mS 3 1 (MapV d).length ((MapV d).map (Value.int .i64)), row vA 9 1 (AccX d).length ((AccX d).map sv), row vT 9 1 ts.length (ts.map sv), box bx11 25 4 [.int .i64 (MinV d).L, .int .i64 (MinV d).s, mF, mN], box bx12 51 3 [mS, vA, vT]] ++ [row c2 9 1 0 []])⟩ (H 8 (lb 15 1654)) := by
    intro c2 hc2
    refine HeldK.fromD hH ?_
    refine HeldK.three 0 8 13 (fuel := 7) (listed1 := (lb 15 1655)) (listed2 := (lb 15 1910)) (listed3 := (lb 15 9846)) krf rfl rfl rfl krf krf krf ?_ ?_ ?_
    ·refine AK.lit (xs := []) sl26 el3 rfl rfl rfl (by intro a ha; cases ha) (by decide) (by decide) trivial rfl (fun c1 => ?_)
     refine AK.shape 10 rfl (fun hc1 => ?_)
     refine .nil ?_
     refine HeldK.backS (fun _ hw => hw.pick [8] (by decide) rfl rfl) ?_
     exact HeldK.toD hH (hD23 c1 hc1 c2 hc2) slr (fun w hw => hw.pick [0, 1, 2, 3, 4, 5, 6, 7, 8, 10, 9] (by decide) rfl rfl)
    ·refine AK.lit (xs := []) sl49 el9 rfl rfl rfl (by intro a ha; cases ha) (by decide) (by decide) trivial rfl (fun c3 => ?_)
     refine AK.shape 10 rfl (fun hc3 => ?_)
     refine .nil ?_
     refine HeldK.backS (fun _ hw => hw.pick [8] (by decide) rfl rfl) ?_
     exact HeldK.toD hH (hD21 c2 hc2 c3 hc3) slr (fun w hw => hw.pick [0, 1, 2, 3, 4, 5, 6, 7, 8, 9, 10] (by decide) rfl rfl)
    ·refine AK.alloc el51 rfl rfl trivial rfl (fun bx => ?_)
     refine .nil ?_
     refine HeldK.backS (fun _ hw => hw.pick [8] (by decide) rfl rfl) ?_
     exact HeldK.toD hH (hD19 c2 hc2 bx) slr (fun w hw => hw.pick [0, 1, 2, 3, 4, 5, 6, 7, 8, 9, 10] (by decide) rfl rfl)
   have hD28 : ∀ (c1 : Value) (hc1 : IsSl c1), AK ⟨Try.prog, Try.f13.ntmps, w, fun _ => False⟩ ⟨[(12, .pointer (some ⟨bx12, 0, none⟩)), (1, .int .i64 wh), (2, .int .i64 pa), (3, .int .i64 tt), (4, sv l), (5, .pointer (some ⟨bx5, 0, none⟩)), (11, .pointer (some ⟨bx11, 0, none⟩)), (48, mS), (46, c1), (52, vA), (56, vT)], ([box bx5 25 4 [.int .i64 d.L, .int .i64 d.s, vF, vN]] ++ dfaO 4 3 26 mF mN mrs (MinV d) ++ [row mS 3 1 (MapV d).length ((MapV d).map (Value.int .i64)), row vA 9 1 (AccX d).length ((AccX d).map sv), row vT 9 1 ts.length (ts.map sv), box bx11 25 4 [.int .i64 (MinV d).L, .int .i64 (MinV d).s, mF, mN], box bx12 51 3 [mS, vA, vT]] ++ [row c1 3 1 0 []])⟩ (H 8 (lb 15 1639)) := by
    intro c1 hc1
    refine HeldK.fromD hH ?_
    refine HeldK.four 3 4 8 13 (fuel := 7) (listed1 := (lb 15 1647)) (listed2 := (lb 15 1655)) (listed3 := (lb 15 1895)) (listed4 := (lb 15 9831)) krf rfl rfl rfl rfl krf krf krf krf ?_ ?_ ?_ ?_
    ·refine AK.appendH 9 rfl sl26 el3 rfl (by decide) rfl rfl rfl rdp (one'_map _ (fun _ => rfl) _) (by omega) (by omega) trivial rfl (fun c1 hc1 => ?_)
     refine AK.snd2 9 rfl ?_
     refine .nil ?_
     refine HeldK.backS (fun _ hw => hw.pick [8] (by decide) rfl rfl) ?_
     exact HeldK.toD hH (hD24 c1 hc1) slr (fun w hw => hw.pick [0, 1, 2, 3, 4, 5, 6, 7, 8, 9] (by decide) rfl rfl)
    ·refine AK.lit (xs := []) sl49 el9 rfl rfl rfl (by intro a ha; cases ha) (by decide) (by decide) trivial rfl (fun c2 => ?_)
     refine AK.shape 10 rfl (fun hc2 => ?_)
     refine .nil ?_
     refine HeldK.backS (fun _ hw => hw.pick [8] (by decide) rfl rfl) ?_
     exact HeldK.toD hH (hD23 c1 hc1 c2 hc2) slr (fun w hw => hw.pick [0, 1, 2, 3, 4, 5, 6, 7, 8, 9, 10] (by decide) rfl rfl)
    ·refine AK.lit (xs := []) sl49 el9 rfl rfl rfl (by intro a ha; cases ha) (by decide) (by decide) trivial rfl (fun c3 => ?_)
     refine AK.shape 10 rfl (fun hc3 => ?_)
     refine .nil ?_
     refine HeldK.backS (fun _ hw => hw.pick [8] (by decide) rfl rfl) ?_
     exact HeldK.toD hH (hD22 c1 hc1 c3 hc3) slr (fun w hw => hw.pick [0, 1, 2, 3, 4, 5, 6, 7, 8, 9, 10] (by decide) rfl rfl)
    ·refine AK.alloc el51 rfl rfl trivial rfl (fun bx => ?_)
     refine .nil ?_
     refine HeldK.backS (fun _ hw => hw.pick [8] (by decide) rfl rfl) ?_
     exact HeldK.toD hH (hD20 c1 hc1 bx) slr (fun w hw => hw.pick [0, 1, 2, 3, 4, 5, 6, 7, 8, 9, 10] (by decide) rfl rfl)
   have hD29 : ∀ (_ : Unit), AK ⟨Try.prog, Try.f13.ntmps, w, fun _ => False⟩ ⟨[(12, .pointer (some ⟨bx12, 0, none⟩)), (1, .int .i64 wh), (2, .int .i64 pa), (3, .int .i64 tt), (4, sv l), (5, .pointer (some ⟨bx5, 0, none⟩)), (11, .pointer (some ⟨bx11, 0, none⟩)), (48, mS), (52, vA), (56, vT)], ([box bx5 25 4 [.int .i64 d.L, .int .i64 d.s, vF, vN]] ++ dfaO 4 3 26 mF mN mrs (MinV d) ++ [row mS 3 1 (MapV d).length ((MapV d).map (Value.int .i64)), row vA 9 1 (AccX d).length ((AccX d).map sv), row vT 9 1 ts.length (ts.map sv), box bx11 25 4 [.int .i64 (MinV d).L, .int .i64 (MinV d).s, mF, mN], box bx12 51 3 [mS, vA, vT]] ++ [])⟩ (H 9 (lb 15 1638)) := by
    intro _
    refine HeldK.fromD hH ?_
    refine HeldK.four 0 4 8 13 (fuel := 8) (listed1 := (lb 15 1639)) (listed2 := (lb 15 1654)) (listed3 := (lb 15 1894)) (listed4 := (lb 15 9830)) krf rfl rfl rfl rfl krf krf krf krf ?_ ?_ ?_ ?_
    ·refine AK.lit (xs := []) sl26 el3 rfl rfl rfl (by intro a ha; cases ha) (by decide) (by decide) trivial rfl (fun c1 => ?_)
     refine AK.shape 9 rfl (fun hc1 => ?_)
     refine .nil ?_
     refine HeldK.backS (fun _ hw => hw.pick [8] (by decide) rfl rfl) ?_
     exact HeldK.toD hH (hD28 c1 hc1) slr (fun w hw => hw.pick [0, 1, 2, 3, 4, 5, 6, 7, 8, 9] (by decide) rfl rfl)
    ·refine AK.lit (xs := []) sl49 el9 rfl rfl rfl (by intro a ha; cases ha) (by decide) (by decide) trivial rfl (fun c2 => ?_)
     refine AK.shape 9 rfl (fun hc2 => ?_)
     refine .nil ?_
     refine HeldK.backS (fun _ hw => hw.pick [8] (by decide) rfl rfl) ?_
     exact HeldK.toD hH (hD27 c2 hc2) slr (fun w hw => hw.pick [0, 1, 2, 3, 4, 5, 6, 7, 8, 9] (by decide) rfl rfl)
    ·refine AK.lit (xs := []) sl49 el9 rfl rfl rfl (by intro a ha; cases ha) (by decide) (by decide) trivial rfl (fun c3 => ?_)
     refine AK.shape 9 rfl (fun hc3 => ?_)
     refine .nil ?_
     refine HeldK.backS (fun _ hw => hw.pick [8] (by decide) rfl rfl) ?_
     exact HeldK.toD hH (hD26 c3 hc3) slr (fun w hw => hw.pick [0, 1, 2, 3, 4, 5, 6, 7, 8, 9] (by decide) rfl rfl)
    ·refine AK.alloc el51 rfl rfl trivial rfl (fun bx => ?_)
     refine .nil ?_
     refine HeldK.backS (fun _ hw => hw.pick [8] (by decide) rfl rfl) ?_
     exact HeldK.toD hH (hD25  bx) slr (fun w hw => hw.pick [0, 1, 2, 3, 4, 5, 6, 7, 8, 9] (by decide) rfl rfl)
   refine HeldK.intoD hH (hD29 ()) slr (fun w hw => hw)
  ·skip
   refine AK.then_ (hK8 _ ?_)
   refine .sr fun _ hK9 => ?_
   refine .as rfl (.nt hK9 ?_)
   refine .seq fun _ hK10 => ?_
   refine .sr fun _ hK11 => ?_
   refine .mv rfl ?_
   refine .v (.andAny rfl rfl) ?_
   refine .nt hK11 (.block ?_)
   refine .sr fun _ hK12 => ?_
   refine .v (.eql rfl rfl) ?_
   refine .as rfl (.nt hK12 ?_)
   refine AK.condD rfl (fun hc2 => ?_) (fun hc2 => ?_)
   ·refine .seq fun _ hK13 => ?_
    refine AK.quiet mixed krf ?_
    refine .mv rfl ?_
    refine .v (.fieldAddr fd51_0 rfl) ?_
    refine .v (.loadBox on26 rfl bsp rfl) ?_
    refine .v (.lenR sl26 rfl rdp) ?_
    refine .v (.remT rfl rfl hpa (by (try simp only [Nat.zero_add]); omega)) ?_
    refine .v (.fieldAddr fd51_0 rfl) ?_
    refine .v (.loadBox on26 rfl bsp rfl) ?_
    refine .v (.lenR sl26 rfl rdp) ?_
    refine .v (.add rfl rfl (by (try simp only [Nat.zero_add]); omega)) ?_
    refine .v (.fieldAddr fd51_0 rfl) ?_
    refine .v (.loadBox on26 rfl bsp rfl) ?_
    refine .v (.lenR sl26 rfl rdp) ?_
    refine QK.val (.int .i64 (i1 : Int)) (Yl.valE (Yl.rem rfl rfl (by (try simp only [Nat.zero_add]); omega) (by (try simp only [Nat.zero_add]); omega)) (congrArg (Value.int .i64) (by simpa using ei1))) trivial rfl ?_
    refine .as rfl ?_
    refine QK.nil (QK.fin ?_)
    refine AK.then_ (hK13 _ ?_)
    refine AK.region ?_
    refine .v (.fieldAddr fd51_0 rfl) ?_
    refine .v (.loadBox on26 rfl bsp rfl) ?_
    refine .mv rfl (.mv rfl ?_)
    first | refine .v (.iN sl26 rfl rfl) ?_ | refine .v (.iK sl26 rfl rfl) ?_
    refine AK.store1e 9 rfl sz3 rfl rfl rfl rfl (by omega) (cs' := (((MapV d).set i1 tt).map (Value.int .i64))) (by rw [List.map_set]) trivial ?_
    refine .nil (.block_normal ?_)
    refine AK.then_ (hK10 _ ?_)
    refine .seq fun _ hK14 => ?_
    try (conv => enter [2, 2]; dsimp only [List.set_cons_zero, List.set_cons_succ, List.cons_append, List.nil_append])
    refine AK.held 13 mixed ?_
    refine HeldK.first 0 (fuel := 12) (listed' := (lb 13 1)) _ rfl krf krf rfl (Yl.loadBoxG ag25 rfl bsp rfl rfl) trivial rfl ?_
    refine HeldK.first 1 (fuel := 11) (listed' := (lb 13 3)) _ rfl krf krf rfl (Yl.loadBoxG ag25 rfl bsp rfl rfl) trivial rfl ?_
    refine HeldK.first 2 (fuel := 10) (listed' := (lb 13 7)) _ rfl krf krf rfl (Yl.loadBoxG ag51 rfl bsp rfl rfl) trivial rfl ?_
    refine HeldK.first 4 (fuel := 9) (listed' := (lb 13 23)) _ rfl krf krf rfl (Yl.loadBoxG ag25 rfl bsp rfl rfl) trivial rfl ?_
    refine HeldK.first 5 (fuel := 8) (listed' := (lb 13 55)) _ rfl krf krf rfl (Yl.loadBoxG ag25 rfl bsp rfl rfl) trivial rfl ?_
    refine HeldK.first 6 (fuel := 7) (listed' := (lb 13 119)) _ rfl krf krf rfl (Yl.loadBoxG ag51 rfl bsp rfl rfl) trivial rfl ?_
    refine HeldK.one 3 (fuel := 6) (listed' := (lb 13 127)) krf rfl krf ?_
    refine AK.call co32 rfl (fun w hw => (by first | exact s_check w _ d (h0.at hw) _ (MinV d) (RdD.own 1 hw hmrs rfl rfl rfl) _ _ _ ((MapV d).set i1 tt) ((AccX d)) (ts) (RdL.ownE 9 hw rfl (by simp) rfl) (RdL.ownE 10 hw rfl (by simp) rfl) hla (RdL.ownE 11 hw rfl (by simp <;> fail) (by first | rfl | (rw [List.map_append]; rfl))) hlt | exact s_check w _ d (h0.at hw) _ (MinV d) (RdD.own 1 hw hmrs rfl rfl rfl) _ _ _ ((MapV d)) ((AccX d).set i2 l) (ts) (RdL.ownE 9 hw rfl (by simp) rfl) (RdL.ownE 10 hw rfl (by simp) rfl) (set_len hla hm) (RdL.ownE 11 hw rfl (by simp <;> fail) (by first | rfl | (rw [List.map_append]; rfl))) hlt | exact s_check w _ d (h0.at hw) _ (MinV d) (RdD.own 1 hw hmrs rfl rfl rfl) _ _ _ ((MapV d)) ((AccX d)) (ts.set i3 l) (RdL.ownE 9 hw rfl (by simp) rfl) (RdL.ownE 10 hw rfl (by simp) rfl) hla (RdL.ownE 11 hw rfl (by simp <;> fail) (by first | rfl | (rw [List.map_append]; rfl))) (set_len hlt hm) | exact s_check w _ d (h0.at hw) _ (MinV d) (RdD.own 1 hw hmrs rfl rfl rfl) _ _ _ ((MapV d)) ((AccX d)) (ts) (RdL.ownE 9 hw rfl (by simp) rfl) (RdL.ownE 10 hw rfl (by simp) rfl) hla (RdL.ownE 11 hw rfl (by simp <;> fail) (by first | rfl | (rw [List.map_append]; rfl))) hlt | exact s_check w _ d (h0.at hw) _ (MinV d) (RdD.own 1 hw hmrs rfl rfl rfl) _ _ _ ((MapV d)) ((AccX d)) (ts ++ [l]) (RdL.ownE 9 hw rfl (by simp) rfl) (RdL.ownE 10 hw rfl (by simp) rfl) hla (RdL.ownE 11 hw rfl (by simp <;> fail) (by first | rfl | (rw [List.map_append]; rfl))) (app_len hlt hm))) trivial rfl ?_
    rintro r o ⟨b1, rfl, hb1, rfl⟩
    refine .nil ?_
    try (conv => enter [2, 2]; dsimp only [List.set_cons_zero, List.set_cons_succ, List.cons_append, List.nil_append])
    refine HeldK.back Go.Sx.hle ?_
    refine HeldK.one 7 (fuel := 5) (listed' := (lb 13 255)) krf rfl krf ?_
    refine AK.call co33 rfl (fun w hw => (by first | exact s_refcheck w _ d (h0.at hw) _ (MinV d) (RdD.own 1 hw hmrs rfl rfl rfl) _ _ _ ((MapV d).set i1 tt) ((AccX d)) (ts) (RdL.ownE 9 hw rfl (by simp) rfl) (RdL.ownE 10 hw rfl (by simp) rfl) hla (RdL.ownE 11 hw rfl (by simp <;> fail) (by first | rfl | (rw [List.map_append]; rfl))) hlt | exact s_refcheck w _ d (h0.at hw) _ (MinV d) (RdD.own 1 hw hmrs rfl rfl rfl) _ _ _ ((MapV d)) ((AccX d).set i2 l) (ts) (RdL.ownE 9 hw rfl (by simp) rfl) (RdL.ownE 10 hw rfl (by simp) rfl) (set_len hla hm) (RdL.ownE 11 hw rfl (by simp <;> fail) (by first | rfl | (rw [List.map_append]; rfl))) hlt | exact s_refcheck w _ d (h0.at hw) _ (MinV d) (RdD.own 1 hw hmrs rfl rfl rfl) _ _ _ ((MapV d)) ((AccX d)) (ts.set i3 l) (RdL.ownE 9 hw rfl (by simp) rfl) (RdL.ownE 10 hw rfl (by simp) rfl) hla (RdL.ownE 11 hw rfl (by simp <;> fail) (by first | rfl | (rw [List.map_append]; rfl))) (set_len hlt hm) | exact s_refcheck w _ d (h0.at hw) _ (MinV d) (RdD.own 1 hw hmrs rfl rfl rfl) _ _ _ ((MapV d)) ((AccX d)) (ts) (RdL.ownE 9 hw rfl (by simp) rfl) (RdL.ownE 10 hw rfl (by simp) rfl) hla (RdL.ownE 11 hw rfl (by simp <;> fail) (by first | rfl | (rw [List.map_append]; rfl))) hlt | exact s_refcheck w _ d (h0.at hw) _ (MinV d) (RdD.own 1 hw hmrs rfl rfl rfl) _ _ _ ((MapV d)) ((AccX d)) (ts ++ [l]) (RdL.ownE 9 hw rfl (by simp) rfl) (RdL.ownE 10 hw rfl (by simp) rfl) hla (RdL.ownE 11 hw rfl (by simp <;> fail) (by first | rfl | (rw [List.map_append]; rfl))) (app_len hlt hm))) trivial rfl ?_
    rintro r o ⟨b2, rfl, hb2, rfl⟩
    refine .nil ?_
    try (conv => enter [2, 2]; dsimp only [List.set_cons_zero, List.set_cons_succ, List.cons_append, List.nil_append])
    refine HeldK.back Go.Sx.hle ?_
    refine HeldK.first 8 (fuel := 4) (listed' := (lb 13 511)) _ rfl krf krf rfl (Yl.eqlB bo4 rfl rfl) trivial rfl ?_
    refine HeldK.first 9 (fuel := 3) (listed' := (lb 13 1023)) _ rfl krf krf rfl (Yl.move rfl) trivial rfl ?_
    refine HeldK.one 10 (fuel := 2) (listed' := (lb 13 2047)) krf rfl krf ?_
    refine AK.knownT (g := 140) rfl (by rw [show b1 = b2 from Bool.eq_iff_iff.2 (hb1.trans hb2.symm)]; exact beq_self_eq_true _) (fun hg_20_9 => ?_)
    refine AK.call co16 rfl (fun w hw => s_awake w) ⟨_, rfl, congrArg (fun b => some (Value.bool b)) hg_20_9⟩ rfl ?_
    rintro r o ⟨rfl, rfl⟩
    refine .nil ?_
    try (conv => enter [2, 2]; dsimp only [List.set_cons_zero, List.set_cons_succ, List.cons_append, List.nil_append])
    refine HeldK.back Go.Sx.hle ?_
    refine HeldK.first 11 (fuel := 1) (listed' := (lb 13 4095)) _ rfl krf krf rfl (Yl.pickT rfl (hg_20_9) rfl) trivial rfl ?_
    refine HeldK.first 12 (fuel := 0) (listed' := (lb 13 8191)) _ rfl krf krf rfl (Yl.assign rfl) trivial rfl ?_
    refine HeldK.done krf ?_
    refine AK.then_ (hK14 _ ?_)
    refine .ret ?_
    refine AK.ret1 rfl rfl (fun w hw => ⟨_, _, ?_, rfl, Ret.of (hw.pick [] (by decide) rfl rfl)⟩)
    exact ⟨rfl, rfl⟩
   ·refine .sr fun _ hK15 => ?_
    refine .v (.eql rfl rfl) ?_
    refine .as rfl (.nt hK15 ?_)
    refine AK.condD rfl (fun hc3 => ?_) (fun hc3 => ?_)
    ·refine .seq fun _ hK16 => ?_
     refine AK.quiet mixed krf ?_
     refine .mv rfl ?_
     refine .v (.fieldAddr fd51_1 rfl) ?_
     refine .v (.loadBox on49 rfl bsp rfl) ?_
     refine .v (.lenR sl49 rfl rdp) ?_
     refine .v (.remT rfl rfl hpa (by (try simp only [Nat.zero_add]); omega)) ?_
     refine .v (.fieldAddr fd51_1 rfl) ?_
     refine .v (.loadBox on49 rfl bsp rfl) ?_
     refine .v (.lenR sl49 rfl rdp) ?_
     refine .v (.add rfl rfl (by (try simp only [Nat.zero_add]); omega)) ?_
     refine .v (.fieldAddr fd51_1 rfl) ?_
     refine .v (.loadBox on49 rfl bsp rfl) ?_
     refine .v (.lenR sl49 rfl rdp) ?_
     refine QK.val (.int .i64 (i2 : Int)) (Yl.valE (Yl.rem rfl rfl (by (try simp only [Nat.zero_add]); omega) (by (try simp only [Nat.zero_add]); omega)) (congrArg (Value.int .i64) (by simpa using ei2))) trivial rfl ?_
     refine .as rfl ?_
     refine QK.nil (QK.fin ?_)
     refine AK.then_ (hK16 _ ?_)
     refine AK.region ?_
     refine .v (.fieldAddr fd51_1 rfl) ?_
     refine .v (.loadBox on49 rfl bsp rfl) ?_
     refine .mv rfl (.mv rfl ?_)
     first | refine .v (.iN sl49 rfl rfl) ?_ | refine .v (.iK sl49 rfl rfl) ?_
     refine AK.store1e 10 rfl sz9 rfl rfl rfl rfl (by omega) (cs' := (((AccX d).set i2 l).map sv)) (by rw [List.map_set]) trivial ?_
     refine .nil (.block_normal ?_)
     refine AK.then_ (hK10 _ ?_)
     refine .seq fun _ hK17 => ?_
     try (conv => enter [2, 2]; dsimp only [List.set_cons_zero, List.set_cons_succ, List.cons_append, List.nil_append])
     refine AK.held 13 mixed ?_
     refine HeldK.first 0 (fuel := 12) (listed' := (lb 13 1)) _ rfl krf krf rfl (Yl.loadBoxG ag25 rfl bsp rfl rfl) trivial rfl ?_
     refine HeldK.first 1 (fuel := 11) (listed' := (lb 13 3)) _ rfl krf krf rfl (Yl.loadBoxG ag25 rfl bsp rfl rfl) trivial rfl ?_
     refine HeldK.first 2 (fuel := 10) (listed' := (lb 13 7)) _ rfl krf krf rfl (Yl.loadBoxG ag51 rfl bsp rfl rfl) trivial rfl ?_
     refine HeldK.first 4 (fuel := 9) (listed' := (lb 13 23)) _ rfl krf krf rfl (Yl.loadBoxG ag25 rfl bsp rfl rfl) trivial rfl ?_
     refine HeldK.first 5 (fuel := 8) (listed' := (lb 13 55)) _ rfl krf krf rfl (Yl.loadBoxG ag25 rfl bsp rfl rfl) trivial rfl ?_
     refine HeldK.first 6 (fuel := 7) (listed' := (lb 13 119)) _ rfl krf krf rfl (Yl.loadBoxG ag51 rfl bsp rfl rfl) trivial rfl ?_
     refine HeldK.one 3 (fuel := 6) (listed' := (lb 13 127)) krf rfl krf ?_
     refine AK.call co32 rfl (fun w hw => (by first | exact s_check w _ d (h0.at hw) _ (MinV d) (RdD.own 1 hw hmrs rfl rfl rfl) _ _ _ ((MapV d).set i1 tt) ((AccX d)) (ts) (RdL.ownE 9 hw rfl (by simp) rfl) (RdL.ownE 10 hw rfl (by simp) rfl) hla (RdL.ownE 11 hw rfl (by simp <;> fail) (by first | rfl | (rw [List.map_append]; rfl))) hlt | exact s_check w _ d (h0.at hw) _ (MinV d) (RdD.own 1 hw hmrs rfl rfl rfl) _ _ _ ((MapV d)) ((AccX d).set i2 l) (ts) (RdL.ownE 9 hw rfl (by simp) rfl) (RdL.ownE 10 hw rfl (by simp) rfl) (set_len hla hm) (RdL.ownE 11 hw rfl (by simp <;> fail) (by first | rfl | (rw [List.map_append]; rfl))) hlt | exact s_check w _ d (h0.at hw) _ (MinV d) (RdD.own 1 hw hmrs rfl rfl rfl) _ _ _ ((MapV d)) ((AccX d)) (ts.set i3 l) (RdL.ownE 9 hw rfl (by simp) rfl) (RdL.ownE 10 hw rfl (by simp) rfl) hla (RdL.ownE 11 hw rfl (by simp <;> fail) (by first | rfl | (rw [List.map_append]; rfl))) (set_len hlt hm) | exact s_check w _ d (h0.at hw) _ (MinV d) (RdD.own 1 hw hmrs rfl rfl rfl) _ _ _ ((MapV d)) ((AccX d)) (ts) (RdL.ownE 9 hw rfl (by simp) rfl) (RdL.ownE 10 hw rfl (by simp) rfl) hla (RdL.ownE 11 hw rfl (by simp <;> fail) (by first | rfl | (rw [List.map_append]; rfl))) hlt | exact s_check w _ d (h0.at hw) _ (MinV d) (RdD.own 1 hw hmrs rfl rfl rfl) _ _ _ ((MapV d)) ((AccX d)) (ts ++ [l]) (RdL.ownE 9 hw rfl (by simp) rfl) (RdL.ownE 10 hw rfl (by simp) rfl) hla (RdL.ownE 11 hw rfl (by simp <;> fail) (by first | rfl | (rw [List.map_append]; rfl))) (app_len hlt hm))) trivial rfl ?_
     rintro r o ⟨b1, rfl, hb1, rfl⟩
     refine .nil ?_
     try (conv => enter [2, 2]; dsimp only [List.set_cons_zero, List.set_cons_succ, List.cons_append, List.nil_append])
     refine HeldK.back Go.Sx.hle ?_
     refine HeldK.one 7 (fuel := 5) (listed' := (lb 13 255)) krf rfl krf ?_
     refine AK.call co33 rfl (fun w hw => (by first | exact s_refcheck w _ d (h0.at hw) _ (MinV d) (RdD.own 1 hw hmrs rfl rfl rfl) _ _ _ ((MapV d).set i1 tt) ((AccX d)) (ts) (RdL.ownE 9 hw rfl (by simp) rfl) (RdL.ownE 10 hw rfl (by simp) rfl) hla (RdL.ownE 11 hw rfl (by simp <;> fail) (by first | rfl | (rw [List.map_append]; rfl))) hlt | exact s_refcheck w _ d (h0.at hw) _ (MinV d) (RdD.own 1 hw hmrs rfl rfl rfl) _ _ _ ((MapV d)) ((AccX d).set i2 l) (ts) (RdL.ownE 9 hw rfl (by simp) rfl) (RdL.ownE 10 hw rfl (by simp) rfl) (set_len hla hm) (RdL.ownE 11 hw rfl (by simp <;> fail) (by first | rfl | (rw [List.map_append]; rfl))) hlt | exact s_refcheck w _ d (h0.at hw) _ (MinV d) (RdD.own 1 hw hmrs rfl rfl rfl) _ _ _ ((MapV d)) ((AccX d)) (ts.set i3 l) (RdL.ownE 9 hw rfl (by simp) rfl) (RdL.ownE 10 hw rfl (by simp) rfl) hla (RdL.ownE 11 hw rfl (by simp <;> fail) (by first | rfl | (rw [List.map_append]; rfl))) (set_len hlt hm) | exact s_refcheck w _ d (h0.at hw) _ (MinV d) (RdD.own 1 hw hmrs rfl rfl rfl) _ _ _ ((MapV d)) ((AccX d)) (ts) (RdL.ownE 9 hw rfl (by simp) rfl) (RdL.ownE 10 hw rfl (by simp) rfl) hla (RdL.ownE 11 hw rfl (by simp <;> fail) (by first | rfl | (rw [List.map_append]; rfl))) hlt | exact s_refcheck w _ d (h0.at hw) _ (MinV d) (RdD.own 1 hw hmrs rfl rfl rfl) _ _ _ ((MapV d)) ((AccX d)) (ts ++ [l]) (RdL.ownE 9 hw rfl (by simp) rfl) (RdL.ownE 10 hw rfl (by simp) rfl) hla (RdL.ownE 11 hw rfl (by simp <;> fail) (by first | rfl | (rw [List.map_append]; rfl))) (app_len hlt hm))) trivial rfl ?_
     rintro r o ⟨b2, rfl, hb2, rfl⟩
     refine .nil ?_
     try (conv => enter [2, 2]; dsimp only [List.set_cons_zero, List.set_cons_succ, List.cons_append, List.nil_append])
     refine HeldK.back Go.Sx.hle ?_
     refine HeldK.first 8 (fuel := 4) (listed' := (lb 13 511)) _ rfl krf krf rfl (Yl.eqlB bo4 rfl rfl) trivial rfl ?_
     refine HeldK.first 9 (fuel := 3) (listed' := (lb 13 1023)) _ rfl krf krf rfl (Yl.move rfl) trivial rfl ?_
     refine HeldK.one 10 (fuel := 2) (listed' := (lb 13 2047)) krf rfl krf ?_
     refine AK.knownT (g := 140) rfl (by rw [show b1 = b2 from Bool.eq_iff_iff.2 (hb1.trans hb2.symm)]; exact beq_self_eq_true _) (fun hg_20_9 => ?_)
     refine AK.call co16 rfl (fun w hw => s_awake w) ⟨_, rfl, congrArg (fun b => some (Value.bool b)) hg_20_9⟩ rfl ?_
     rintro r o ⟨rfl, rfl⟩
     refine .nil ?_
     try (conv => enter [2, 2]; dsimp only [List.set_cons_zero, List.set_cons_succ, List.cons_append, List.nil_append])
     refine HeldK.back Go.Sx.hle ?_
     refine HeldK.first 11 (fuel := 1) (listed' := (lb 13 4095)) _ rfl krf krf rfl (Yl.pickT rfl (hg_20_9) rfl) trivial rfl ?_
     refine HeldK.first 12 (fuel := 0) (listed' := (lb 13 8191)) _ rfl krf krf rfl (Yl.assign rfl) trivial rfl ?_
     refine HeldK.done krf ?_
     refine AK.then_ (hK17 _ ?_)
     refine .ret ?_
     refine AK.ret1 rfl rfl (fun w hw => ⟨_, _, ?_, rfl, Ret.of (hw.pick [] (by decide) rfl rfl)⟩)
     exact ⟨rfl, rfl⟩
    ·refine .sr fun _ hK18 => ?_
     refine .v (.eql rfl rfl) ?_
     refine .as rfl (.nt hK18 ?_)
     refine AK.condD rfl (fun hc4 => ?_) (fun hc4 => ?_)
     ·refine .sr fun _ hK19 => ?_
      refine .v (.fieldAddr fd51_2 rfl) ?_
      refine .v (.loadBox on49 rfl bsp rfl) ?_
      refine .v (.lenR sl49 rfl rdp) ?_
      refine .v (.gtr rfl rfl) ?_
      refine .nt hK19 ?_
      refine AK.condD rfl (fun hc5 => ?_) (fun hc5 => ?_)
      ·obtain ⟨i3, ei3, hi3, hp3, hq3⟩ := idx_ok pa (n := ts.length) (by omega)
       refine .seq fun _ hK20 => ?_
       refine AK.quiet mixed krf ?_
       refine .mv rfl ?_
       refine .v (.fieldAddr fd51_2 rfl) ?_
       refine .v (.loadBox on49 rfl bsp rfl) ?_
       refine .v (.lenR sl49 rfl rdp) ?_
       refine .v (.remT rfl rfl hpa (by (try simp only [Nat.zero_add]); omega)) ?_
       refine .v (.fieldAddr fd51_2 rfl) ?_
       refine .v (.loadBox on49 rfl bsp rfl) ?_
       refine .v (.lenR sl49 rfl rdp) ?_
       refine .v (.add rfl rfl (by (try simp only [Nat.zero_add]); omega)) ?_
       refine .v (.fieldAddr fd51_2 rfl) ?_
       refine .v (.loadBox on49 rfl bsp rfl) ?_
       refine .v (.lenR sl49 rfl rdp) ?_
       refine QK.val (.int .i64 (i3 : Int)) (Yl.valE (Yl.rem rfl rfl (by (try simp only [Nat.zero_add]); omega) (by (try simp only [Nat.zero_add]); omega)) (congrArg (Value.int .i64) (by simpa using ei3))) trivial rfl ?_
       refine .as rfl ?_
       refine QK.nil (QK.fin ?_)
       refine AK.then_ (hK20 _ ?_)
       refine AK.region ?_
       refine .v (.fieldAddr fd51_2 rfl) ?_
       refine .v (.loadBox on49 rfl bsp rfl) ?_
       refine .mv rfl (.mv rfl ?_)
       first | refine .v (.iN sl49 rfl rfl) ?_ | refine .v (.iK sl49 rfl rfl) ?_
       refine AK.store1e 11 rfl sz9 rfl rfl rfl rfl (by omega) (cs' := ((ts.set i3 l).map sv)) (by rw [List.map_set]) trivial ?_
       refine .nil (.block_normal ?_)
       refine AK.then_ (hK10 _ ?_)
       refine .seq fun _ hK21 => ?_
       try (conv => enter [2, 2]; dsimp only [List.set_cons_zero, List.set_cons_succ, List.cons_append, List.nil_append])
       refine AK.held 13 mixed ?_
       refine HeldK.first 0 (fuel := 12) (listed' := (lb 13 1)) _ rfl krf krf rfl (Yl.loadBoxG ag25 rfl bsp rfl rfl) trivial rfl ?_
       refine HeldK.first 1 (fuel := 11) (listed' := (lb 13 3)) _ rfl krf krf rfl (Yl.loadBoxG ag25 rfl bsp rfl rfl) trivial rfl ?_
       refine HeldK.first 2 (fuel := 10) (listed' := (lb 13 7)) _ rfl krf krf rfl (Yl.loadBoxG ag51 rfl bsp rfl rfl) trivial rfl ?_
       refine HeldK.first 4 (fuel := 9) (listed' := (lb 13 23)) _ rfl krf krf rfl (Yl.loadBoxG ag25 rfl bsp rfl rfl) trivial rfl ?_
       refine HeldK.first 5 (fuel := 8) (listed' := (lb 13 55)) _ rfl krf krf rfl (Yl.loadBoxG ag25 rfl bsp rfl rfl) trivial rfl ?_
       refine HeldK.first 6 (fuel := 7) (listed' := (lb 13 119)) _ rfl krf krf rfl (Yl.loadBoxG ag51 rfl bsp rfl rfl) trivial rfl ?_
       refine HeldK.one 3 (fuel := 6) (listed' := (lb 13 127)) krf rfl krf ?_
       refine AK.call co32 rfl (fun w hw => (by first | exact s_check w _ d (h0.at hw) _ (MinV d) (RdD.own 1 hw hmrs rfl rfl rfl) _ _ _ ((MapV d).set i1 tt) ((AccX d)) (ts) (RdL.ownE 9 hw rfl (by simp) rfl) (RdL.ownE 10 hw rfl (by simp) rfl) hla (RdL.ownE 11 hw rfl (by simp <;> fail) (by first | rfl | (rw [List.map_append]; rfl))) hlt | exact s_check w _ d (h0.at hw) _ (MinV d) (RdD.own 1 hw hmrs rfl rfl rfl) _ _ _ ((MapV d)) ((AccX d).set i2 l) (ts) (RdL.ownE 9 hw rfl (by simp) rfl) (RdL.ownE 10 hw rfl (by simp) rfl) (set_len hla hm) (RdL.ownE 11 hw rfl (by simp <;> fail) (by first | rfl | (rw [List.map_append]; rfl))) hlt | exact s_check w _ d (h0.at hw) _ (MinV d) (RdD.own 1 hw hmrs rfl rfl rfl) _ _ _ ((MapV d)) ((AccX d)) (ts.set i3 l) (RdL.ownE 9 hw rfl (by simp) rfl) (RdL.ownE 10 hw rfl (by simp) rfl) hla (RdL.ownE 11 hw rfl (by simp <;> fail) (by first | rfl | (rw [List.map_append]; rfl))) (set_len hlt hm) | exact s_check w _ d (h0.at hw) _ (MinV d) (RdD.own 1 hw hmrs rfl rfl rfl) _ _ _ ((MapV d)) ((AccX d)) (ts) (RdL.ownE 9 hw rfl (by simp) rfl) (RdL.ownE 10 hw rfl (by simp) rfl) hla (RdL.ownE 11 hw rfl (by simp <;> fail) (by first | rfl | (rw [List.map_append]; rfl))) hlt | exact s_check w _ d (h0.at hw) _ (MinV d) (RdD.own 1 hw hmrs rfl rfl rfl) _ _ _ ((MapV d)) ((AccX d)) (ts ++ [l]) (RdL.ownE 9 hw rfl (by simp) rfl) (RdL.ownE 10 hw rfl (by simp) rfl) hla (RdL.ownE 11 hw rfl (by simp <;> fail) (by first | rfl | (rw [List.map_append]; rfl))) (app_len hlt hm))) trivial rfl ?_
       rintro r o ⟨b1, rfl, hb1, rfl⟩
       refine .nil ?_
       try (conv => enter [2, 2]; dsimp only [List.set_cons_zero, List.set_cons_succ, List.cons_append, List.nil_append])
       refine HeldK.back Go.Sx.hle ?_
       refine HeldK.one 7 (fuel := 5) (listed' := (lb 13 255)) krf rfl krf ?_
       refine AK.call co33 rfl (fun w hw => (by first | exact s_refcheck w _ d (h0.at hw) _ (MinV d) (RdD.own 1 hw hmrs rfl rfl rfl) _ _ _ ((MapV d).set i1 tt) ((AccX d)) (ts) (RdL.ownE 9 hw rfl (by simp) rfl) (RdL.ownE 10 hw rfl (by simp) rfl) hla (RdL.ownE 11 hw rfl (by simp <;> fail) (by first | rfl | (rw [List.map_append]; rfl))) hlt | exact s_refcheck w _ d (h0.at hw) _ (MinV d) (RdD.own 1 hw hmrs rfl rfl rfl) _ _ _ ((MapV d)) ((AccX d).set i2 l) (ts) (RdL.ownE 9 hw rfl (by simp) rfl) (RdL.ownE 10 hw rfl (by simp) rfl) (set_len hla hm) (RdL.ownE 11 hw rfl (by simp <;> fail) (by first | rfl | (rw [List.map_append]; rfl))) hlt | exact s_refcheck w _ d (h0.at hw) _ (MinV d) (RdD.own 1 hw hmrs rfl rfl rfl) _ _ _ ((MapV d)) ((AccX d)) (ts.set i3 l) (RdL.ownE 9 hw rfl (by simp) rfl) (RdL.ownE 10 hw rfl (by simp) rfl) hla (RdL.ownE 11 hw rfl (by simp <;> fail) (by first | rfl | (rw [List.map_append]; rfl))) (set_len hlt hm) | exact s_refcheck w _ d (h0.at hw) _ (MinV d) (RdD.own 1 hw hmrs rfl rfl rfl) _ _ _ ((MapV d)) ((AccX d)) (ts) (RdL.ownE 9 hw rfl (by simp) rfl) (RdL.ownE 10 hw rfl (by simp) rfl) hla (RdL.ownE 11 hw rfl (by simp <;> fail) (by first | rfl | (rw [List.map_append]; rfl))) hlt | exact s_refcheck w _ d (h0.at hw) _ (MinV d) (RdD.own 1 hw hmrs rfl rfl rfl) _ _ _ ((MapV d)) ((AccX d)) (ts ++ [l]) (RdL.ownE 9 hw rfl (by simp) rfl) (RdL.ownE 10 hw rfl (by simp) rfl) hla (RdL.ownE 11 hw rfl (by simp <;> fail) (by first | rfl | (rw [List.map_append]; rfl))) (app_len hlt hm))) trivial rfl ?_
       rintro r o ⟨b2, rfl, hb2, rfl⟩
       refine .nil ?_
       try (conv => enter [2, 2]; dsimp only [List.set_cons_zero, List.set_cons_succ, List.cons_append, List.nil_append])
       refine HeldK.back Go.Sx.hle ?_
       refine HeldK.first 8 (fuel := 4) (listed' := (lb 13 511)) _ rfl krf krf rfl (Yl.eqlB bo4 rfl rfl) trivial rfl ?_
       refine HeldK.first 9 (fuel := 3) (listed' := (lb 13 1023)) _ rfl krf krf rfl (Yl.move rfl) trivial rfl ?_
       refine HeldK.one 10 (fuel := 2) (listed' := (lb 13 2047)) krf rfl krf ?_
       refine AK.knownT (g := 140) rfl (by rw [show b1 = b2 from Bool.eq_iff_iff.2 (hb1.trans hb2.symm)]; exact beq_self_eq_true _) (fun hg_20_9 => ?_)
       refine AK.call co16 rfl (fun w hw => s_awake w) ⟨_, rfl, congrArg (fun b => some (Value.bool b)) hg_20_9⟩ rfl ?_
       rintro r o ⟨rfl, rfl⟩
       refine .nil ?_
       try (conv => enter [2, 2]; dsimp only [List.set_cons_zero, List.set_cons_succ, List.cons_append, List.nil_append])
       refine HeldK.back Go.Sx.hle ?_
       refine HeldK.first 11 (fuel := 1) (listed' := (lb 13 4095)) _ rfl krf krf rfl (Yl.pickT rfl (hg_20_9) rfl) trivial rfl ?_
       refine HeldK.first 12 (fuel := 0) (listed' := (lb 13 8191)) _ rfl krf krf rfl (Yl.assign rfl) trivial rfl ?_
       refine HeldK.done krf ?_
       refine AK.then_ (hK21 _ ?_)
       refine .ret ?_
       refine AK.ret1 rfl rfl (fun w hw => ⟨_, _, ?_, rfl, Ret.of (hw.pick [] (by decide) rfl rfl)⟩)
       exact ⟨rfl, rfl⟩
      ·refine .skip (.block_normal ?_)
       refine AK.then_ (hK10 _ ?_)
       refine .seq fun _ hK22 => ?_
       try (conv => enter [2, 2]; dsimp only [List.set_cons_zero, List.set_cons_succ, List.cons_append, List.nil_append])
       refine AK.held 13 mixed ?_
       refine HeldK.first 0 (fuel := 12) (listed' := (lb 13 1)) _ rfl krf krf rfl (Yl.loadBoxG ag25 rfl bsp rfl rfl) trivial rfl ?_
       refine HeldK.first 1 (fuel := 11) (listed' := (lb 13 3)) _ rfl krf krf rfl (Yl.loadBoxG ag25 rfl bsp rfl rfl) trivial rfl ?_
       refine HeldK.first 2 (fuel := 10) (listed' := (lb 13 7)) _ rfl krf krf rfl (Yl.loadBoxG ag51 rfl bsp rfl rfl) trivial rfl ?_
       refine HeldK.first 4 (fuel := 9) (listed' := (lb 13 23)) _ rfl krf krf rfl (Yl.loadBoxG ag25 rfl bsp rfl rfl) trivial rfl ?_
       refine HeldK.first 5 (fuel := 8) (listed' := (lb 13 55)) _ rfl krf krf rfl (Yl.loadBoxG ag25 rfl bsp rfl rfl) trivial rfl ?_
       refine HeldK.first 6 (fuel := 7) (listed' := (lb 13 119)) _ rfl krf krf rfl (Yl.loadBoxG ag51 rfl bsp rfl rfl) trivial rfl ?_
       refine HeldK.one 3 (fuel := 6) (listed' := (lb 13 127)) krf rfl krf ?_
       refine AK.call co32 rfl (fun w hw => (by first | exact s_check w _ d (h0.at hw) _ (MinV d) (RdD.own 1 hw hmrs rfl rfl rfl) _ _ _ ((MapV d).set i1 tt) ((AccX d)) (ts) (RdL.ownE 9 hw rfl (by simp) rfl) (RdL.ownE 10 hw rfl (by simp) rfl) hla (RdL.ownE 11 hw rfl (by simp <;> fail) (by first | rfl | (rw [List.map_append]; rfl))) hlt | exact s_check w _ d (h0.at hw) _ (MinV d) (RdD.own 1 hw hmrs rfl rfl rfl) _ _ _ ((MapV d)) ((AccX d).set i2 l) (ts) (RdL.ownE 9 hw rfl (by simp) rfl) (RdL.ownE 10 hw rfl (by simp) rfl) (set_len hla hm) (RdL.ownE 11 hw rfl (by simp <;> fail) (by first | rfl | (rw [List.map_append]; rfl))) hlt | exact s_check w _ d (h0.at hw) _ (MinV d) (RdD.own 1 hw hmrs rfl rfl rfl) _ _ _ ((MapV d)) ((AccX d)) (ts.set i3 l) (RdL.ownE 9 hw rfl (by simp) rfl) (RdL.ownE 10 hw rfl (by simp) rfl) hla (RdL.ownE 11 hw rfl (by simp <;> fail) (by first | rfl | (rw [List.map_append]; rfl))) (set_len hlt hm) | exact s_check w _ d (h0.at hw) _ (MinV d) (RdD.own 1 hw hmrs rfl rfl rfl) _ _ _ ((MapV d)) ((AccX d)) (ts) (RdL.ownE 9 hw rfl (by simp) rfl) (RdL.ownE 10 hw rfl (by simp) rfl) hla (RdL.ownE 11 hw rfl (by simp <;> fail) (by first | rfl | (rw [List.map_append]; rfl))) hlt | exact s_check w _ d (h0.at hw) _ (MinV d) (RdD.own 1 hw hmrs rfl rfl rfl) _ _ _ ((MapV d)) ((AccX d)) (ts ++ [l]) (RdL.ownE 9 hw rfl (by simp) rfl) (RdL.ownE 10 hw rfl (by simp) rfl) hla (RdL.ownE 11 hw rfl (by simp <;> fail) (by first | rfl | (rw [List.map_append]; rfl))) (app_len hlt hm))) trivial rfl ?_
       rintro r o ⟨b1, rfl, hb1, rfl⟩
       refine .nil ?_
       try (conv => enter [2, 2]; dsimp only [List.set_cons_zero, List.set_cons_succ, List.cons_append, List.nil_append])
       refine HeldK.back Go.Sx.hle ?_
       refine HeldK.one 7 (fuel := 5) (listed' := (lb 13 255)) krf rfl krf ?_
       refine AK.call co33 rfl (fun w hw => (by first | exact s_refcheck w _ d (h0.at hw) _ (MinV d) (RdD.own 1 hw hmrs rfl rfl rfl) _ _ _ ((MapV d).set i1 tt) ((AccX d)) (ts) (RdL.ownE 9 hw rfl (by simp) rfl) (RdL.ownE 10 hw rfl (by simp) rfl) hla (RdL.ownE 11 hw rfl (by simp <;> fail) (by first | rfl | (rw [List.map_append]; rfl))) hlt | exact s_refcheck w _ d (h0.at hw) _ (MinV d) (RdD.own 1 hw hmrs rfl rfl rfl) _ _ _ ((MapV d)) ((AccX d).set i2 l) (ts) (RdL.ownE 9 hw rfl (by simp) rfl) (RdL.ownE 10 hw rfl (by simp) rfl) (set_len hla hm) (RdL.ownE 11 hw rfl (by simp <;> fail) (by first | rfl | (rw [List.map_append]; rfl))) hlt | exact s_refcheck w _ d (h0.at hw) _ (MinV d) (RdD.own 1 hw hmrs rfl rfl rfl) _ _ _ ((MapV d)) ((AccX d)) (ts.set i3 l) (RdL.ownE 9 hw rfl (by simp) rfl) (RdL.ownE 10 hw rfl (by simp) rfl) hla (RdL.ownE 11 hw rfl (by simp <;> fail) (by first | rfl | (rw [List.map_append]; rfl))) (set_len hlt hm) | exact s_refcheck w _ d (h0.at hw) _ (MinV d) (RdD.own 1 hw hmrs rfl rfl rfl) _ _ _ ((MapV d)) ((AccX d)) (ts) (RdL.ownE 9 hw rfl (by simp) rfl) (RdL.ownE 10 hw rfl (by simp) rfl) hla (RdL.ownE 11 hw rfl (by simp <;> fail) (by first | rfl | (rw [List.map_append]; rfl))) hlt | exact s_refcheck w _ d (h0.at hw) _ (MinV d) (RdD.own 1 hw hmrs rfl rfl rfl) _ _ _ ((MapV d)) ((AccX d)) (ts ++ [l]) (RdL.ownE 9 hw rfl (by simp) rfl) (RdL.ownE 10 hw rfl (by simp) rfl) hla (RdL.ownE 11 hw rfl (by simp <;> fail) (by first | rfl | (rw [List.map_append]; rfl))) (app_len hlt hm))) trivial rfl ?_
       rintro r o ⟨b2, rfl, hb2, rfl⟩
       refine .nil ?_
       try (conv => enter [2, 2]; dsimp only [List.set_cons_zero, List.set_cons_succ, List.cons_append, List.nil_append])
       refine HeldK.back Go.Sx.hle ?_
       refine HeldK.first 8 (fuel := 4) (listed' := (lb 13 511)) _ rfl krf krf rfl (Yl.eqlB bo4 rfl rfl) trivial rfl ?_
       refine HeldK.first 9 (fuel := 3) (listed' := (lb 13 1023)) _ rfl krf krf rfl (Yl.move rfl) trivial rfl ?_
       refine HeldK.one 10 (fuel := 2) (listed' := (lb 13 2047)) krf rfl krf ?_
       refine AK.knownT (g := 140) rfl (by rw [show b1 = b2 from Bool.eq_iff_iff.2 (hb1.trans hb2.symm)]; exact beq_self_eq_true _) (fun hg_20_9 => ?_)
       refine AK.call co16 rfl (fun w hw => s_awake w) ⟨_, rfl, congrArg (fun b => some (Value.bool b)) hg_20_9⟩ rfl ?_
       rintro r o ⟨rfl, rfl⟩
       refine .nil ?_
       try (conv => enter [2, 2]; dsimp only [List.set_cons_zero, List.set_cons_succ, List.cons_append, List.nil_append])
       refine HeldK.back Go.Sx.hle ?_
       refine HeldK.first 11 (fuel := 1) (listed' := (lb 13 4095)) _ rfl krf krf rfl (Yl.pickT rfl (hg_20_9) rfl) trivial rfl ?_
       refine HeldK.first 12 (fuel := 0) (listed' := (lb 13 8191)) _ rfl krf krf rfl (Yl.assign rfl) trivial rfl ?_
       refine HeldK.done krf ?_
       refine AK.then_ (hK22 _ ?_)
       refine .ret ?_
       refine AK.ret1 rfl rfl (fun w hw => ⟨_, _, ?_, rfl, Ret.of (hw.pick [] (by decide) rfl rfl)⟩)
       exact ⟨rfl, rfl⟩
     ·refine AK.region ?_
      refine .v (.fieldAddr fd51_2 rfl) ?_
      refine .v (.loadBox on49 rfl bsp rfl) ?_
      refine .mv rfl ?_
      refine AK.append1 11 rfl sl49 el9 rfl (by decide) rfl (by intro k hk; cases hk; rfl) rfl (by intro u hu; simp [Value.cells, sv] at hu; subst hu; rfl) (by omega) (by omega) (by decide) rfl rfl (fun cT2 _ hcT2 => ?_)
      refine .v (.fieldAddr fd51_2 rfl) ?_
      refine AK.storeBox 12 (us := [cT2]) (cs' := [z.1, z.2.1, cT2]) rfl sz49 rfl rfl (by rw [IsSl.cells (by assumption)]) rfl oneP (Nat.le_of_ble_eq_true rfl) rfl trivial ?_
      refine .nil (.block_normal ?_)
      refine AK.then_ (hK10 _ ?_)
      refine .seq fun _ hK23 => ?_
      try (conv => enter [2, 2]; dsimp only [List.set_cons_zero, List.set_cons_succ, List.cons_append, List.nil_append])
      refine AK.held 13 mixed ?_
      refine HeldK.first 0 (fuel := 12) (listed' := (lb 13 1)) _ rfl krf krf rfl (Yl.loadBoxG ag25 rfl bsp rfl rfl) trivial rfl ?_
      refine HeldK.first 1 (fuel := 11) (listed' := (lb 13 3)) _ rfl krf krf rfl (Yl.loadBoxG ag25 rfl bsp rfl rfl) trivial rfl ?_
      refine HeldK.first 2 (fuel := 10) (listed' := (lb 13 7)) _ rfl krf krf rfl (Yl.loadBoxG ag51 rfl bsp rfl rfl) trivial rfl ?_
      refine HeldK.first 4 (fuel := 9) (listed' := (lb 13 23)) _ rfl krf krf rfl (Yl.loadBoxG ag25 rfl bsp rfl rfl) trivial rfl ?_
      refine HeldK.first 5 (fuel := 8) (listed' := (lb 13 55)) _ rfl krf krf rfl (Yl.loadBoxG ag25 rfl bsp rfl rfl) trivial rfl ?_
      refine HeldK.first 6 (fuel := 7) (listed' := (lb 13 119)) _ rfl krf krf rfl (Yl.loadBoxG ag51 rfl bsp rfl rfl) trivial rfl ?_
      refine HeldK.one 3 (fuel := 6) (listed' := (lb 13 127)) krf rfl krf ?_
      refine AK.call co32 rfl (fun w hw => (by first | exact s_check w _ d (h0.at hw) _ (MinV d) (RdD.own 1 hw hmrs rfl rfl rfl) _ _ _ ((MapV d).set i1 tt) ((AccX d)) (ts) (RdL.ownE 9 hw rfl (by simp) rfl) (RdL.ownE 10 hw rfl (by simp) rfl) hla (RdL.ownE 11 hw rfl (by simp <;> fail) (by first | rfl | (rw [List.map_append]; rfl))) hlt | exact s_check w _ d (h0.at hw) _ (MinV d) (RdD.own 1 hw hmrs rfl rfl rfl) _ _ _ ((MapV d)) ((AccX d).set i2 l) (ts) (RdL.ownE 9 hw rfl (by simp) rfl) (RdL.ownE 10 hw rfl (by simp) rfl) (set_len hla hm) (RdL.ownE 11 hw rfl (by simp <;> fail) (by first | rfl | (rw [List.map_append]; rfl))) hlt | exact s_check w _ d (h0.at hw) _ (MinV d) (RdD.own 1 hw hmrs rfl rfl rfl) _ _ _ ((MapV d)) ((AccX d)) (ts.set i3 l) (RdL.ownE 9 hw rfl (by simp) rfl) (RdL.ownE 10 hw rfl (by simp) rfl) hla (RdL.ownE 11 hw rfl (by simp <;> fail) (by first | rfl | (rw [List.map_append]; rfl))) (set_len hlt hm) | exact s_check w _ d (h0.at hw) _ (MinV d) (RdD.own 1 hw hmrs rfl rfl rfl) _ _ _ ((MapV d)) ((AccX d)) (ts) (RdL.ownE 9 hw rfl (by simp) rfl) (RdL.ownE 10 hw rfl (by simp) rfl) hla (RdL.ownE 11 hw rfl (by simp <;> fail) (by first | rfl | (rw [List.map_append]; rfl))) hlt | exact s_check w _ d (h0.at hw) _ (MinV d) (RdD.own 1 hw hmrs rfl rfl rfl) _ _ _ ((MapV d)) ((AccX d)) (ts ++ [l]) (RdL.ownE 9 hw rfl (by simp) rfl) (RdL.ownE 10 hw rfl (by simp) rfl) hla (RdL.ownE 11 hw rfl (by simp <;> fail) (by first | rfl | (rw [List.map_append]; rfl))) (app_len hlt hm))) trivial rfl ?_
      rintro r o ⟨b1, rfl, hb1, rfl⟩
      refine .nil ?_
      try (conv => enter [2, 2]; dsimp only [List.set_cons_zero, List.set_cons_succ, List.cons_append, List.nil_append])
      refine HeldK.back Go.Sx.hle ?_
      refine HeldK.one 7 (fuel := 5) (listed' := (lb 13 255)) krf rfl krf ?_
      refine AK.call co33 rfl (fun w hw => (by first | exact s_refcheck w _ d (h0.at hw) _ (MinV d) (RdD.own 1 hw hmrs rfl rfl rfl) _ _ _ ((MapV d).set i1 tt) ((AccX d)) (ts) (RdL.ownE 9 hw rfl (by simp) rfl) (RdL.ownE 10 hw rfl (by simp) rfl) hla (RdL.ownE 11 hw rfl (by simp <;> fail) (by first | rfl | (rw [List.map_append]; rfl))) hlt | exact s_refcheck w _ d (h0.at hw) _ (MinV d) (RdD.own 1 hw hmrs rfl rfl rfl) _ _ _ ((MapV d)) ((AccX d).set i2 l) (ts) (RdL.ownE 9 hw rfl (by simp) rfl) (RdL.ownE 10 hw rfl (by simp) rfl) (set_len hla hm) (RdL.ownE 11 hw rfl (by simp <;> fail) (by first | rfl | (rw [List.map_append]; rfl))) hlt | exact s_refcheck w _ d (h0.at hw) _ (MinV d) (RdD.own 1 hw hmrs rfl rfl rfl) _ _ _ ((MapV d)) ((AccX d)) (ts.set i3 l) (RdL.ownE 9 hw rfl (by simp) rfl) (RdL.ownE 10 hw rfl (by simp) rfl) hla (RdL.ownE 11 hw rfl (by simp <;> fail) (by first | rfl | (rw [List.map_append]; rfl))) (set_len hlt hm) | exact s_refcheck w _ d (h0.at hw) _ (MinV d) (RdD.own 1 hw hmrs rfl rfl rfl) _ _ _ ((MapV d)) ((AccX d)) (ts) (RdL.ownE 9 hw rfl (by simp) rfl) (RdL.ownE 10 hw rfl (by simp) rfl) hla (RdL.ownE 11 hw rfl (by simp <;> fail) (by first | rfl | (rw [List.map_append]; rfl))) hlt | exact s_refcheck w _ d (h0.at hw) _ (MinV d) (RdD.own 1 hw hmrs rfl rfl rfl) _ _ _ ((MapV d)) ((AccX d)) (ts ++ [l]) (RdL.ownE 9 hw rfl (by simp) rfl) (RdL.ownE 10 hw rfl (by simp) rfl) hla (RdL.ownE 11 hw rfl (by simp <;> fail) (by first | rfl | (rw [List.map_append]; rfl))) (app_len hlt hm))) trivial rfl ?_
      rintro r o ⟨b2, rfl, hb2, rfl⟩
      refine .nil ?_
      try (conv => enter [2, 2]; dsimp only [List.set_cons_zero, List.set_cons_succ, List.cons_append, List.nil_append])
      refine HeldK.back Go.Sx.hle ?_
      refine HeldK.first 8 (fuel := 4) (listed' := (lb 13 511)) _ rfl krf krf rfl (Yl.eqlB bo4 rfl rfl) trivial rfl ?_
      refine HeldK.first 9 (fuel := 3) (listed' := (lb 13 1023)) _ rfl krf krf rfl (Yl.move rfl) trivial rfl ?_
      refine HeldK.one 10 (fuel := 2) (listed' := (lb 13 2047)) krf rfl krf ?_
      refine AK.knownT (g := 140) rfl (by rw [show b1 = b2 from Bool.eq_iff_iff.2 (hb1.trans hb2.symm)]; exact beq_self_eq_true _) (fun hg_20_9 => ?_)
      refine AK.call co16 rfl (fun w hw => s_awake w) ⟨_, rfl, congrArg (fun b => some (Value.bool b)) hg_20_9⟩ rfl ?_
      rintro r o ⟨rfl, rfl⟩
      refine .nil ?_
      try (conv => enter [2, 2]; dsimp only [List.set_cons_zero, List.set_cons_succ, List.cons_append, List.nil_append])
      refine HeldK.back Go.Sx.hle ?_
      refine HeldK.first 11 (fuel := 1) (listed' := (lb 13 4095)) _ rfl krf krf rfl (Yl.pickT rfl (hg_20_9) rfl) trivial rfl ?_
      refine HeldK.first 12 (fuel := 0) (listed' := (lb 13 8191)) _ rfl krf krf rfl (Yl.assign rfl) trivial rfl ?_
      refine HeldK.done krf ?_
      refine AK.then_ (hK23 _ ?_)
      refine .ret ?_
      refine AK.ret1 rfl rfl (fun w hw => ⟨_, _, ?_, rfl, Ret.of (hw.pick [] (by decide) rfl rfl)⟩)
      exact ⟨rfl, rfl⟩

end Go.Proofs.Ytoikhoniogicdaa
