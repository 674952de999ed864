import Derived.Test.YtmfakjfkjoichaaD18
import Derived.Test.YtmfakjfkjoichaaD6
import Derived.Test.YtmfakjfkjoichaaDs
set_option linter.unusedVariables false
set_option linter.unusedSimpArgs false
namespace Go.Proofs.Ytmfakjfkjoichaa
open Go.Sx Go.RowKit
theorem en_last {ws : List (List UInt8)} : (ws.getD ((ws.length : Int) - 1).toNat []) = ws.getD (ws.length - 1) [] := by
  congr 1; omega
theorem en_at {d : Dfa} (hv : VD d) {x : Nat} (hx : x < (WordsV d 40).length) : AccV d ((WordsV d 40).getD x []) = true ∧ ((WordsV d 40).getD x []).length ≤ 9223372036854775807 ∧ (0 < x → CmpV ((WordsV d 40).getD ((x : Int) - 1).toNat []) ((WordsV d 40).getD x []) < 0) := by
  have h1 := en_mem hv (n := 40) (by omega) (l := (WordsV d 40).getD x []) (getD_mem hx)
  refine ⟨h1, ?_, fun h0 => ?_⟩
  · have hw := acc_valid h1
    unfold validW at hw; rw [Bool.and_eq_true, decide_eq_true_eq] at hw; omega
  · rw [CmpV_lt]; exact (en_srt hv (n := 40) (by omega)).get (by omega) hx
theorem en_len {d : Dfa} (hv : VD d) : (WordsV d 40).length ≤ 40 := by
  have e : WordsV d 40 = (accF d 2049).take 40 := words_eq hv (n := 40) (by omega)
  rw [e]; exact List.length_take_le _ _
theorem cnt_bd {ws : List (List UInt8)} (h : ws.length ≤ 40) (x l : Nat) : 0 ≤ (cntL ws x).getD l 0 ∧ (cntL ws x).getD l 0 ≤ 40 := by
  by_cases hl : l < 9
  · rw [cntL_get ws x hl]
    have h1 : (ws.take x).countP (ofL l) ≤ (ws.take x).length := List.countP_le_length
    have h2 : (ws.take x).length ≤ ws.length := by rw [List.length_take]; exact Nat.min_le_right _ _
    omega
  · rw [List.getD_eq_getElem?_getD, List.getElem?_eq_none (by rw [cntL_len]; omega)]; simp
theorem en_miss {d : Dfa} (hv : VD d) {l : List UInt8} (ha : AccV d l = true) (h : l ∉ WordsV d 40) : (WordsV d 40).length = 40 ∧ ¬ CmpV l ((WordsV d 40).getD (((WordsV d 40).length : Int) - 1).toNat []) < 0 := by
  obtain ⟨h1, h2⟩ := en_found hv (n := 40) (by omega) ha h
  refine ⟨h1, ?_⟩
  rw [CmpV_lt]
  exact slx_asymm (h2 _ (getD_mem (d := []) (xs := WordsV d 40) (k := (((WordsV d 40).length : Int) - 1).toNat) (by have h3 : (WordsV d 40).length = 40 := h1; omega)))
theorem mem_take_succ {xs : List (List UInt8)} {k : Nat} {l : List UInt8} (h : k < xs.length) : decide (l ∈ xs.take (k + 1)) = (decide (l ∈ xs.take k) || decide (xs.getD k [] = l)) := by
  rw [take_snocD [] xs k h, Bool.eq_iff_iff]; simp only [decide_eq_true_eq, Bool.or_eq_true, List.mem_append, List.mem_singleton]; exact or_congr Iff.rfl ⟨Eq.symm, Eq.symm⟩
set_option maxHeartbeats 2000000 in
set_option maxRecDepth 100000 in
theorem l_enumerates (w : World) (v : Value) (d : Dfa) (h : RdD (fun _ => False) w v d) (l : List UInt8) (hm : l.length ≤ 9223372036854775807) : CallS Try.prog 9 [v, sv l] w (fun r o => r = .bool true ∧ o = []) := by
  have h0 := h
  obtain ⟨vF, vN, rfl, hF, hN⟩ := h
  have hF0 := hF
  have hN0 := hN
  obtain ⟨rs, hrl, hNr, hNi⟩ := hN
  have sF := hF.sl
  have sN := hNr.sl
  have hmf := hF.le
  have hmn := hNr.le
  unfold RdL at hF
  refine spec_of Try.func9 rfl (Nat.le_of_ble_eq_true rfl) ?_
  refine AK.seq (fun _ hK1 => ?_)
  refine AK.region ?_
  refine AK.box_ (E := 25) (cs := [.int .i64 d.L, .int .i64 d.s, vF, vN]) rfl rfl rfl trivial rfl (fun bx2 => ?_)
  refine AK.val _ (Yl.assign rfl) trivial rfl ?_
  refine AK.nil ?_
  refine AK.then_ (hK1 _ ?_)
  refine AK.seq (fun _ hK2 => ?_)
  refine AK.seq (fun _ hK3 => ?_)
  refine AK.region ?_
  refine AK.val _ (Yl.loadBoxG ag25 rfl (by first | exact .own 0 rfl | exact .own 1 rfl | exact .own 2 rfl | exact .own 3 rfl | exact .own 4 rfl | exact .own 5 rfl | exact .own 6 rfl | exact .own 7 rfl | exact .own 8 rfl | exact .own 9 rfl | exact .own 10 rfl | exact .own 11 rfl | exact .own 12 rfl | assumption | exact BoxS.arg (by assumption)) rfl rfl) trivial rfl ?_
  refine AK.call co34 rfl (fun w hw => s_small w _ d (h0.at hw) 8) trivial rfl ?_
  rintro r o ⟨rfl, rfl⟩
  refine AK.val _ (Yl.not rfl) trivial rfl ?_
  refine AK.nil ?_
  refine AK.then_ (hK3 _ ?_)
  refine AK.condB rfl (fun hc0 => ?_) (fun hc0 => ?_)
  · refine AK.seq (fun _ hK4 => ?_)
    refine AK.region ?_
    refine AK.call co17 rfl (fun w hw => s_awake w) trivial rfl ?_
    rintro r o ⟨rfl, rfl⟩
    refine AK.val _ (Yl.assign rfl) trivial rfl ?_
    refine AK.nil ?_
    refine AK.then_ (hK4 _ ?_)
    refine AK.ret ?_
    refine AK.then_ret ?_
    refine AK.ret1 rfl rfl (fun w hw => ⟨_, _, ?_, rfl, Ret.of (hw.pick [] (by decide) rfl rfl)⟩)
    exact ⟨rfl, rfl⟩
  · have hv : VD d := (by simpa using hc0 : _ ∧ VD d).2
    have hel := en_len hv
    refine AK.skip ?_
    refine AK.then_ (hK2 _ ?_)
    refine AK.seq (fun _ hK5 => ?_)
    refine AK.region ?_
    refine AK.val _ (Yl.loadBoxG ag25 rfl (by first | exact .own 0 rfl | exact .own 1 rfl | exact .own 2 rfl | exact .own 3 rfl | exact .own 4 rfl | exact .own 5 rfl | exact .own 6 rfl | exact .own 7 rfl | exact .own 8 rfl | exact .own 9 rfl | exact .own 10 rfl | exact .own 11 rfl | exact .own 12 rfl | assumption | exact BoxS.arg (by assumption)) rfl rfl) trivial rfl ?_
    refine AK.call co19 rfl (fun w hw => s_words w _ d (h0.at hw) 40) trivial rfl ?_
    rintro ws o rfl
    refine AK.val _ (Yl.assign rfl) trivial rfl ?_
    refine AK.nil ?_
    refine AK.then_ (hK5 _ ?_)
    refine AK.seq (fun _ hK6 => ?_)
    refine AK.region ?_
    refine AK.val _ (Yl.assign rfl) trivial rfl ?_
    refine AK.nil ?_
    refine AK.then_ (hK6 _ ?_)
    refine AK.seq (fun _ hK7 => ?_)
    refine AK.region ?_
    refine AK.make1 (n := 9) sl38 el3 rfl rfl rfl (by omega) (by omega) trivial rfl (fun cv => ?_)
    refine AK.val _ (Yl.assign rfl) trivial rfl ?_
    refine AK.nil ?_
    refine AK.then_ (hK7 _ ?_)
    refine AK.seq (fun _ hK8 => ?_)
    refine AK.seq (fun _ hK9 => ?_)
    refine AK.region ?_
    refine AK.val _ (Yl.move rfl) trivial rfl ?_
    refine AK.val _ (Yl.lenR sl30 rfl (by first | exact .arg ‹_› | exact .own 0 rfl | exact .own 1 rfl | exact .own 2 rfl | exact .own 3 rfl | exact .own 4 rfl | exact .own 5 rfl | exact .own 6 rfl | exact .own 7 rfl | exact .own 8 rfl | assumption | exact .own 9 rfl | exact .own 10 rfl | exact .own 11 rfl | exact .own 12 rfl)) trivial rfl ?_
    refine AK.val _ (Yl.move rfl) trivial rfl ?_
    refine AK.nil ?_
    refine AK.then_ (hK9 _ ?_)
    refine AK.block ?_
    refine AK.loopK (X := Nat) [(1, _), (2, _), (5, _), (7, _), (18, _), (19, _)] (fun x => [(6, .bool (decide (l ∈ (WordsV d 40).take x))), (20, .int .i64 (x : Int))]) (fun x => [box bx2 25 4 [.int .i64 d.L, .int .i64 d.s, vF, vN], row ws 9 1 (WordsV d 40).length ((WordsV d 40).map sv), row cv 3 1 9 ((cntL (WordsV d 40) x).map (Value.int .i64))]) (fun x => x ≤ (WordsV d 40).length) (fun x => (WordsV d 40).length - x) (0) (.cons rfl (.cons rfl (.cons rfl (.cons rfl (.cons rfl (.cons rfl (.nil))))))) ?_ ?_ ?_ ?_
    · exact Nat.zero_le _
    · exact .cons (rfl) (.cons (rfl) (.nil))
    · exact fun w hw => by rw [cntL_zero, List.map_replicate]; exact hw
    · intro x hg0 _ hK10
      refine AK.seq (fun _ hK11 => ?_)
      refine AK.region ?_
      refine AK.val _ (Yl.lss rfl rfl) trivial rfl ?_
      refine AK.nil ?_
      refine AK.then_ (hK11 _ ?_)
      refine AK.seq (fun _ hK12 => ?_)
      refine AK.condD rfl (fun hc1 => ?_) (fun hc1 => ?_)
      · obtain ⟨hacc, hwl, hcm⟩ := en_at hv (x := x) (by omega)
        have hcl := cntL_len (WordsV d 40) x
        have hcb := cnt_bd hel x ((WordsV d 40).getD x []).length
        refine AK.skip ?_
        refine AK.then_ (hK12 _ ?_)
        refine AK.seq (fun _ hK13 => ?_)
        refine AK.block ?_
        refine AK.seq (fun _ hK14 => ?_)
        refine AK.region ?_
        refine AK.val _ (Yl.move rfl) trivial rfl ?_
        first | refine AK.val _ (Yl.idxN sl30 rfl rfl (by first | exact .arg ‹_› | exact .own 0 rfl | exact .own 1 rfl | exact .own 2 rfl | exact .own 3 rfl | exact .own 4 rfl | exact .own 5 rfl | exact .own 6 rfl | exact .own 7 rfl | exact .own 8 rfl | assumption | exact .own 9 rfl | exact .own 10 rfl | exact .own 11 rfl | exact .own 12 rfl) (by decide) (by omega)) trivial rfl ?_ | refine AK.val _ (Yl.idx sl30 rfl rfl (by first | exact .arg ‹_› | exact .own 0 rfl | exact .own 1 rfl | exact .own 2 rfl | exact .own 3 rfl | exact .own 4 rfl | exact .own 5 rfl | exact .own 6 rfl | exact .own 7 rfl | exact .own 8 rfl | assumption | exact .own 9 rfl | exact .own 10 rfl | exact .own 11 rfl | exact .own 12 rfl) (by decide) (by omega)) trivial rfl ?_ | refine AK.val _ (Yl.idxK sl30 rfl rfl (by first | exact .arg ‹_› | exact .own 0 rfl | exact .own 1 rfl | exact .own 2 rfl | exact .own 3 rfl | exact .own 4 rfl | exact .own 5 rfl | exact .own 6 rfl | exact .own 7 rfl | exact .own 8 rfl | assumption | exact .own 9 rfl | exact .own 10 rfl | exact .own 11 rfl | exact .own 12 rfl) (by decide) (by omega)) trivial rfl ?_
        refine AK.val _ (Yl.loadS on9 rfl (by first | exact .arg ‹_› | exact .own 0 rfl | exact .own 1 rfl | exact .own 2 rfl | exact .own 3 rfl | exact .own 4 rfl | exact .own 5 rfl | exact .own 6 rfl | exact .own 7 rfl | exact .own 8 rfl | assumption | exact .own 9 rfl | exact .own 10 rfl | exact .own 11 rfl | exact .own 12 rfl) (by omega)) trivial rfl ?_
        refine AK.val _ (Yl.assign rfl) trivial rfl ?_
        refine AK.val _ (Yl.assign rfl) trivial rfl ?_
        refine AK.nil ?_
        refine AK.then_ (hK14 _ ?_)
        refine AK.seq (fun _ hK15 => ?_)
        refine AK.seq (fun _ hK16 => ?_)
        refine AK.region ?_
        refine AK.val _ (Yl.loadBoxG ag25 rfl (by first | exact .own 0 rfl | exact .own 1 rfl | exact .own 2 rfl | exact .own 3 rfl | exact .own 4 rfl | exact .own 5 rfl | exact .own 6 rfl | exact .own 7 rfl | exact .own 8 rfl | exact .own 9 rfl | exact .own 10 rfl | exact .own 11 rfl | exact .own 12 rfl | assumption | exact BoxS.arg (by assumption)) rfl rfl) trivial rfl ?_
        refine AK.val _ (Yl.move rfl) trivial rfl ?_
        refine AK.call co25 rfl (fun w hw => s_acc w _ d (h0.at hw) ((WordsV d 40).getD x []) hwl) trivial rfl ?_
        rintro r o ⟨rfl, rfl⟩
        refine AK.val _ (Yl.not rfl) trivial rfl ?_
        refine AK.val _ (Yl.move rfl) trivial rfl ?_
        refine AK.knownF (g := 29) rfl (by rw [hacc]; rfl) (fun hg_9_4 => ?_)
        refine AK.val _ (Yl.move rfl) ⟨_, rfl, congrArg (fun b => some (Value.bool b)) hg_9_4⟩ rfl ?_
        refine AK.val _ (Yl.gtr rfl rfl) ⟨_, rfl, congrArg (fun b => some (Value.bool b)) hg_9_4⟩ rfl ?_
        refine AK.val _ (Yl.move rfl) ⟨_, rfl, congrArg (fun b => some (Value.bool b)) hg_9_4⟩ rfl ?_
        refine AK.splitB (g := 32) rfl (fun hg_9_7 => ?_) (fun hg_9_7 => ?_)
        · have hg_9_7' := hg_9_7
          try simp only [decide_eq_true_eq, decide_eq_false_iff_not, Bool.not_eq_true', Bool.not_eq_false', Bool.not_not, ne_eq, Decidable.not_not, Int.not_lt, Int.not_le, beq_iff_eq, bne_iff_ne, Bool.and_eq_true, Bool.or_eq_true, Bool.or_eq_false_iff, Bool.not_false, Bool.not_true, reduceCtorEq, not_true_eq_false, not_false_eq_true] at hg_9_7'
          refine AK.val _ (Yl.move rfl) ⟨_, rfl, congrArg (fun b => some (Value.bool b)) hg_9_7⟩ rfl ?_
          refine AK.val _ (Yl.move rfl) ⟨_, rfl, congrArg (fun b => some (Value.bool b)) hg_9_7⟩ rfl ?_
          refine AK.val _ (Yl.sub rfl rfl (by omega)) ⟨_, rfl, congrArg (fun b => some (Value.bool b)) hg_9_7⟩ rfl ?_
          first | refine AK.val _ (Yl.idxN sl30 rfl rfl (by first | exact .arg ‹_› | exact .own 0 rfl | exact .own 1 rfl | exact .own 2 rfl | exact .own 3 rfl | exact .own 4 rfl | exact .own 5 rfl | exact .own 6 rfl | exact .own 7 rfl | exact .own 8 rfl | assumption | exact .own 9 rfl | exact .own 10 rfl | exact .own 11 rfl | exact .own 12 rfl) (by decide) (by omega)) ⟨_, rfl, congrArg (fun b => some (Value.bool b)) hg_9_7⟩ rfl ?_ | refine AK.val _ (Yl.idx sl30 rfl rfl (by first | exact .arg ‹_› | exact .own 0 rfl | exact .own 1 rfl | exact .own 2 rfl | exact .own 3 rfl | exact .own 4 rfl | exact .own 5 rfl | exact .own 6 rfl | exact .own 7 rfl | exact .own 8 rfl | assumption | exact .own 9 rfl | exact .own 10 rfl | exact .own 11 rfl | exact .own 12 rfl) (by decide) (by omega)) ⟨_, rfl, congrArg (fun b => some (Value.bool b)) hg_9_7⟩ rfl ?_ | refine AK.val _ (Yl.idxK sl30 rfl rfl (by first | exact .arg ‹_› | exact .own 0 rfl | exact .own 1 rfl | exact .own 2 rfl | exact .own 3 rfl | exact .own 4 rfl | exact .own 5 rfl | exact .own 6 rfl | exact .own 7 rfl | exact .own 8 rfl | assumption | exact .own 9 rfl | exact .own 10 rfl | exact .own 11 rfl | exact .own 12 rfl) (by decide) (by omega)) ⟨_, rfl, congrArg (fun b => some (Value.bool b)) hg_9_7⟩ rfl ?_
          refine AK.val _ (Yl.loadS on9 rfl (by first | exact .arg ‹_› | exact .own 0 rfl | exact .own 1 rfl | exact .own 2 rfl | exact .own 3 rfl | exact .own 4 rfl | exact .own 5 rfl | exact .own 6 rfl | exact .own 7 rfl | exact .own 8 rfl | assumption | exact .own 9 rfl | exact .own 10 rfl | exact .own 11 rfl | exact .own 12 rfl) (by omega)) ⟨_, rfl, congrArg (fun b => some (Value.bool b)) hg_9_7⟩ rfl ?_
          refine AK.val _ (Yl.move rfl) ⟨_, rfl, congrArg (fun b => some (Value.bool b)) hg_9_7⟩ rfl ?_
          refine AK.call co35 rfl (fun w hw => s_compare w _ _) ⟨_, rfl, congrArg (fun b => some (Value.bool b)) hg_9_7⟩ rfl ?_
          rintro r o ⟨rfl, rfl⟩
          refine AK.val _ (Yl.geq rfl rfl) ⟨_, rfl, congrArg (fun b => some (Value.bool b)) hg_9_7⟩ rfl ?_
          refine AK.val _ (Yl.pickT rfl (hg_9_7) rfl) ⟨_, rfl, congrArg (fun b => some (Value.bool b)) hg_9_4⟩ rfl ?_
          refine AK.val _ (Yl.pickF rfl (hg_9_4) rfl) trivial rfl ?_
          refine AK.nil ?_
          refine AK.then_ (hK16 _ ?_)
          refine AK.cond_f rfl (decide_eq_false (by have := hcm (by omega); omega)) ?_
          refine AK.skip ?_
          refine AK.then_ (hK15 _ ?_)
          refine AK.seq (fun _ hK17 => ?_)
          refine AK.region ?_
          refine AK.val _ (Yl.move rfl) trivial rfl ?_
          refine AK.val _ (Yl.move rfl) trivial rfl ?_
          refine AK.splitB (g := 44) rfl (fun hg_11_1 => ?_) (fun hg_11_1 => ?_)
          · have hg_11_1' := hg_11_1
            try simp only [decide_eq_true_eq, decide_eq_false_iff_not, Bool.not_eq_true', Bool.not_eq_false', Bool.not_not, ne_eq, Decidable.not_not, Int.not_lt, Int.not_le, beq_iff_eq, bne_iff_ne, Bool.and_eq_true, Bool.or_eq_true, Bool.or_eq_false_iff, Bool.not_false, Bool.not_true, reduceCtorEq, not_true_eq_false, not_false_eq_true] at hg_11_1'
            refine AK.pass rfl rfl (hg_11_1) rfl ?_
            refine AK.pass rfl rfl (hg_11_1) rfl ?_
            refine AK.pass rfl rfl (hg_11_1) rfl ?_
            refine AK.val _ (Yl.pickT rfl (hg_11_1) rfl) trivial rfl ?_
            refine AK.val _ (Yl.assign rfl) trivial rfl ?_
            refine AK.nil ?_
            refine AK.then_ (hK17 _ ?_)
            refine AK.seq (fun _ hK18 => ?_)
            refine AK.region ?_
            refine AK.val _ (Yl.move rfl) trivial rfl ?_
            refine AK.val _ (Yl.lenS un9 rfl) trivial rfl ?_
            refine AK.val _ (Yl.move rfl) trivial rfl ?_
            refine AK.val _ (Yl.lenR sl38 rfl (by first | exact .arg ‹_› | exact .own 0 rfl | exact .own 1 rfl | exact .own 2 rfl | exact .own 3 rfl | exact .own 4 rfl | exact .own 5 rfl | exact .own 6 rfl | exact .own 7 rfl | exact .own 8 rfl | assumption | exact .own 9 rfl | exact .own 10 rfl | exact .own 11 rfl | exact .own 12 rfl)) trivial rfl ?_
            refine AK.val _ (Yl.lss rfl rfl) trivial rfl ?_
            refine AK.nil ?_
            refine AK.then_ (hK18 _ ?_)
            refine AK.condD rfl (fun hc3 => ?_) (fun hc3 => ?_)
            · refine AK.region ?_
              refine AK.val _ (Yl.move rfl) trivial rfl ?_
              refine AK.val _ (Yl.move rfl) trivial rfl ?_
              refine AK.val _ (Yl.lenS un9 rfl) trivial rfl ?_
              first | refine AK.val _ (Yl.idxN sl38 rfl rfl (by first | exact .arg ‹_› | exact .own 0 rfl | exact .own 1 rfl | exact .own 2 rfl | exact .own 3 rfl | exact .own 4 rfl | exact .own 5 rfl | exact .own 6 rfl | exact .own 7 rfl | exact .own 8 rfl | assumption | exact .own 9 rfl | exact .own 10 rfl | exact .own 11 rfl | exact .own 12 rfl) (by decide) (by omega)) trivial rfl ?_ | refine AK.val _ (Yl.idx sl38 rfl rfl (by first | exact .arg ‹_› | exact .own 0 rfl | exact .own 1 rfl | exact .own 2 rfl | exact .own 3 rfl | exact .own 4 rfl | exact .own 5 rfl | exact .own 6 rfl | exact .own 7 rfl | exact .own 8 rfl | assumption | exact .own 9 rfl | exact .own 10 rfl | exact .own 11 rfl | exact .own 12 rfl) (by decide) (by omega)) trivial rfl ?_ | refine AK.val _ (Yl.idxK sl38 rfl rfl (by first | exact .arg ‹_› | exact .own 0 rfl | exact .own 1 rfl | exact .own 2 rfl | exact .own 3 rfl | exact .own 4 rfl | exact .own 5 rfl | exact .own 6 rfl | exact .own 7 rfl | exact .own 8 rfl | assumption | exact .own 9 rfl | exact .own 10 rfl | exact .own 11 rfl | exact .own 12 rfl) (by decide) (by omega)) trivial rfl ?_
              refine AK.val _ (Yl.loadI on3 rfl (by first | exact .arg ‹_› | exact .own 0 rfl | exact .own 1 rfl | exact .own 2 rfl | exact .own 3 rfl | exact .own 4 rfl | exact .own 5 rfl | exact .own 6 rfl | exact .own 7 rfl | exact .own 8 rfl | assumption | exact .own 9 rfl | exact .own 10 rfl | exact .own 11 rfl | exact .own 12 rfl) (by omega)) trivial rfl ?_
              refine AK.val _ (Yl.add rfl rfl (by omega)) trivial rfl ?_
              first | refine AK.val _ (Yl.idxN sl38 rfl rfl (by first | exact .arg ‹_› | exact .own 0 rfl | exact .own 1 rfl | exact .own 2 rfl | exact .own 3 rfl | exact .own 4 rfl | exact .own 5 rfl | exact .own 6 rfl | exact .own 7 rfl | exact .own 8 rfl | assumption | exact .own 9 rfl | exact .own 10 rfl | exact .own 11 rfl | exact .own 12 rfl) (by decide) (by omega)) trivial rfl ?_ | refine AK.val _ (Yl.idx sl38 rfl rfl (by first | exact .arg ‹_› | exact .own 0 rfl | exact .own 1 rfl | exact .own 2 rfl | exact .own 3 rfl | exact .own 4 rfl | exact .own 5 rfl | exact .own 6 rfl | exact .own 7 rfl | exact .own 8 rfl | assumption | exact .own 9 rfl | exact .own 10 rfl | exact .own 11 rfl | exact .own 12 rfl) (by decide) (by omega)) trivial rfl ?_ | refine AK.val _ (Yl.idxK sl38 rfl rfl (by first | exact .arg ‹_› | exact .own 0 rfl | exact .own 1 rfl | exact .own 2 rfl | exact .own 3 rfl | exact .own 4 rfl | exact .own 5 rfl | exact .own 6 rfl | exact .own 7 rfl | exact .own 8 rfl | assumption | exact .own 9 rfl | exact .own 10 rfl | exact .own 11 rfl | exact .own 12 rfl) (by decide) (by omega)) trivial rfl ?_
              refine AK.store1 2 rfl sz3 rfl rfl rfl rfl (by show _ < 9; omega) trivial ?_
              refine AK.nil ?_
              refine AK.block_normal ?_
              refine AK.then_ (hK13 _ ?_)
              refine AK.region ?_
              refine AK.val _ (Yl.add rfl rfl (by omega)) trivial rfl ?_
              refine AK.val _ (Yl.move rfl) trivial rfl ?_
              refine AK.nil ?_
              refine AK.then_ (hK10 _ _ (x + 1) (by omega) (by omega) (.cons ((by rw [mem_take_succ (by omega), hg_11_1]; rfl)) (.cons (rfl) (.cons rfl (.cons rfl (.cons rfl (.cons rfl (.cons rfl (.cons rfl (.nil))))))))) (fun w hw => by rw [cntL_step (by omega)]; first | (rw [List.map_set]; exact hw) | (rw [List.set_eq_of_length_le (by rw [cntL_len]; omega)]; exact hw)))
            · refine AK.skip ?_
              refine AK.block_normal ?_
              refine AK.then_ (hK13 _ ?_)
              refine AK.region ?_
              refine AK.val _ (Yl.add rfl rfl (by omega)) trivial rfl ?_
              refine AK.val _ (Yl.move rfl) trivial rfl ?_
              refine AK.nil ?_
              refine AK.then_ (hK10 _ _ (x + 1) (by omega) (by omega) (.cons ((by rw [mem_take_succ (by omega), hg_11_1]; rfl)) (.cons (rfl) (.cons rfl (.cons rfl (.cons rfl (.cons rfl (.cons rfl (.cons rfl (.nil))))))))) (fun w hw => by rw [cntL_step (by omega)]; first | (rw [List.map_set]; exact hw) | (rw [List.set_eq_of_length_le (by rw [cntL_len]; omega)]; exact hw)))
          · have hg_11_1' := hg_11_1
            try simp only [decide_eq_true_eq, decide_eq_false_iff_not, Bool.not_eq_true', Bool.not_eq_false', Bool.not_not, ne_eq, Decidable.not_not, Int.not_lt, Int.not_le, beq_iff_eq, bne_iff_ne, Bool.and_eq_true, Bool.or_eq_true, Bool.or_eq_false_iff, Bool.not_false, Bool.not_true, reduceCtorEq, not_true_eq_false, not_false_eq_true] at hg_11_1'
            refine AK.val _ (Yl.move rfl) ⟨_, rfl, congrArg (fun b => some (Value.bool b)) hg_11_1⟩ rfl ?_
            refine AK.val _ (Yl.move rfl) ⟨_, rfl, congrArg (fun b => some (Value.bool b)) hg_11_1⟩ rfl ?_
            refine AK.val _ (Yl.eqlS un9 rfl rfl) ⟨_, rfl, congrArg (fun b => some (Value.bool b)) hg_11_1⟩ rfl ?_
            refine AK.val _ (Yl.pickF rfl (hg_11_1) rfl) trivial rfl ?_
            refine AK.val _ (Yl.assign rfl) trivial rfl ?_
            refine AK.nil ?_
            refine AK.then_ (hK17 _ ?_)
            refine AK.seq (fun _ hK19 => ?_)
            refine AK.region ?_
            refine AK.val _ (Yl.move rfl) trivial rfl ?_
            refine AK.val _ (Yl.lenS un9 rfl) trivial rfl ?_
            refine AK.val _ (Yl.move rfl) trivial rfl ?_
            refine AK.val _ (Yl.lenR sl38 rfl (by first | exact .arg ‹_› | exact .own 0 rfl | exact .own 1 rfl | exact .own 2 rfl | exact .own 3 rfl | exact .own 4 rfl | exact .own 5 rfl | exact .own 6 rfl | exact .own 7 rfl | exact .own 8 rfl | assumption | exact .own 9 rfl | exact .own 10 rfl | exact .own 11 rfl | exact .own 12 rfl)) trivial rfl ?_
            refine AK.val _ (Yl.lss rfl rfl) trivial rfl ?_
            refine AK.nil ?_
            refine AK.then_ (hK19 _ ?_)
            refine AK.condD rfl (fun hc3 => ?_) (fun hc3 => ?_)
            · refine AK.region ?_
              refine AK.val _ (Yl.move rfl) trivial rfl ?_
              refine AK.val _ (Yl.move rfl) trivial rfl ?_
              refine AK.val _ (Yl.lenS un9 rfl) trivial rfl ?_
              first | refine AK.val _ (Yl.idxN sl38 rfl rfl (by first | exact .arg ‹_› | exact .own 0 rfl | exact .own 1 rfl | exact .own 2 rfl | exact .own 3 rfl | exact .own 4 rfl | exact .own 5 rfl | exact .own 6 rfl | exact .own 7 rfl | exact .own 8 rfl | assumption | exact .own 9 rfl | exact .own 10 rfl | exact .own 11 rfl | exact .own 12 rfl) (by decide) (by omega)) trivial rfl ?_ | refine AK.val _ (Yl.idx sl38 rfl rfl (by first | exact .arg ‹_› | exact .own 0 rfl | exact .own 1 rfl | exact .own 2 rfl | exact .own 3 rfl | exact .own 4 rfl | exact .own 5 rfl | exact .own 6 rfl | exact .own 7 rfl | exact .own 8 rfl | assumption | exact .own 9 rfl | exact .own 10 rfl | exact .own 11 rfl | exact .own 12 rfl) (by decide) (by omega)) trivial rfl ?_ | refine AK.val _ (Yl.idxK sl38 rfl rfl (by first | exact .arg ‹_› | exact .own 0 rfl | exact .own 1 rfl | exact .own 2 rfl | exact .own 3 rfl | exact .own 4 rfl | exact .own 5 rfl | exact .own 6 rfl | exact .own 7 rfl | exact .own 8 rfl | assumption | exact .own 9 rfl | exact .own 10 rfl | exact .own 11 rfl | exact .own 12 rfl) (by decide) (by omega)) trivial rfl ?_
              refine AK.val _ (Yl.loadI on3 rfl (by first | exact .arg ‹_› | exact .own 0 rfl | exact .own 1 rfl | exact .own 2 rfl | exact .own 3 rfl | exact .own 4 rfl | exact .own 5 rfl | exact .own 6 rfl | exact .own 7 rfl | exact .own 8 rfl | assumption | exact .own 9 rfl | exact .own 10 rfl | exact .own 11 rfl | exact .own 12 rfl) (by omega)) trivial rfl ?_
              refine AK.val _ (Yl.add rfl rfl (by omega)) trivial rfl ?_
              first | refine AK.val _ (Yl.idxN sl38 rfl rfl (by first | exact .arg ‹_› | exact .own 0 rfl | exact .own 1 rfl | exact .own 2 rfl | exact .own 3 rfl | exact .own 4 rfl | exact .own 5 rfl | exact .own 6 rfl | exact .own 7 rfl | exact .own 8 rfl | assumption | exact .own 9 rfl | exact .own 10 rfl | exact .own 11 rfl | exact .own 12 rfl) (by decide) (by omega)) trivial rfl ?_ | refine AK.val _ (Yl.idx sl38 rfl rfl (by first | exact .arg ‹_› | exact .own 0 rfl | exact .own 1 rfl | exact .own 2 rfl | exact .own 3 rfl | exact .own 4 rfl | exact .own 5 rfl | exact .own 6 rfl | exact .own 7 rfl | exact .own 8 rfl | assumption | exact .own 9 rfl | exact .own 10 rfl | exact .own 11 rfl | exact .own 12 rfl) (by decide) (by omega)) trivial rfl ?_ | refine AK.val _ (Yl.idxK sl38 rfl rfl (by first | exact .arg ‹_› | exact .own 0 rfl | exact .own 1 rfl | exact .own 2 rfl | exact .own 3 rfl | exact .own 4 rfl | exact .own 5 rfl | exact .own 6 rfl | exact .own 7 rfl | exact .own 8 rfl | assumption | exact .own 9 rfl | exact .own 10 rfl | exact .own 11 rfl | exact .own 12 rfl) (by decide) (by omega)) trivial rfl ?_
              refine AK.store1 2 rfl sz3 rfl rfl rfl rfl (by show _ < 9; omega) trivial ?_
              refine AK.nil ?_
              refine AK.block_normal ?_
              refine AK.then_ (hK13 _ ?_)
              refine AK.region ?_
              refine AK.val _ (Yl.add rfl rfl (by omega)) trivial rfl ?_
              refine AK.val _ (Yl.move rfl) trivial rfl ?_
              refine AK.nil ?_
              refine AK.then_ (hK10 _ _ (x + 1) (by omega) (by omega) (.cons ((by rw [mem_take_succ (by omega), hg_11_1]; rfl)) (.cons (rfl) (.cons rfl (.cons rfl (.cons rfl (.cons rfl (.cons rfl (.cons rfl (.nil))))))))) (fun w hw => by rw [cntL_step (by omega)]; first | (rw [List.map_set]; exact hw) | (rw [List.set_eq_of_length_le (by rw [cntL_len]; omega)]; exact hw)))
            · refine AK.skip ?_
              refine AK.block_normal ?_
              refine AK.then_ (hK13 _ ?_)
              refine AK.region ?_
              refine AK.val _ (Yl.add rfl rfl (by omega)) trivial rfl ?_
              refine AK.val _ (Yl.move rfl) trivial rfl ?_
              refine AK.nil ?_
              refine AK.then_ (hK10 _ _ (x + 1) (by omega) (by omega) (.cons ((by rw [mem_take_succ (by omega), hg_11_1]; rfl)) (.cons (rfl) (.cons rfl (.cons rfl (.cons rfl (.cons rfl (.cons rfl (.cons rfl (.nil))))))))) (fun w hw => by rw [cntL_step (by omega)]; first | (rw [List.map_set]; exact hw) | (rw [List.set_eq_of_length_le (by rw [cntL_len]; omega)]; exact hw)))
        · have hg_9_7' := hg_9_7
          try simp only [decide_eq_true_eq, decide_eq_false_iff_not, Bool.not_eq_true', Bool.not_eq_false', Bool.not_not, ne_eq, Decidable.not_not, Int.not_lt, Int.not_le, beq_iff_eq, bne_iff_ne, Bool.and_eq_true, Bool.or_eq_true, Bool.or_eq_false_iff, Bool.not_false, Bool.not_true, reduceCtorEq, not_true_eq_false, not_false_eq_true] at hg_9_7'
          refine AK.pass rfl rfl (hg_9_7) rfl ?_
          refine AK.pass rfl rfl (hg_9_7) rfl ?_
          refine AK.pass rfl rfl (hg_9_7) rfl ?_
          refine AK.pass rfl rfl (hg_9_7) rfl ?_
          refine AK.pass rfl rfl (hg_9_7) rfl ?_
          refine AK.pass rfl rfl (hg_9_7) rfl ?_
          refine AK.pass rfl rfl (hg_9_7) rfl ?_
          refine AK.pass rfl rfl (hg_9_7) rfl ?_
          refine AK.val _ (Yl.pickF rfl (hg_9_7) rfl) ⟨_, rfl, congrArg (fun b => some (Value.bool b)) hg_9_4⟩ rfl ?_
          refine AK.val _ (Yl.pickF rfl (hg_9_4) rfl) trivial rfl ?_
          refine AK.nil ?_
          refine AK.then_ (hK16 _ ?_)
          refine AK.cond_f rfl (rfl) ?_
          refine AK.skip ?_
          refine AK.then_ (hK15 _ ?_)
          refine AK.seq (fun _ hK20 => ?_)
          refine AK.region ?_
          refine AK.val _ (Yl.move rfl) trivial rfl ?_
          refine AK.val _ (Yl.move rfl) trivial rfl ?_
          refine AK.splitB (g := 44) rfl (fun hg_11_1 => ?_) (fun hg_11_1 => ?_)
          · have hg_11_1' := hg_11_1
            try simp only [decide_eq_true_eq, decide_eq_false_iff_not, Bool.not_eq_true', Bool.not_eq_false', Bool.not_not, ne_eq, Decidable.not_not, Int.not_lt, Int.not_le, beq_iff_eq, bne_iff_ne, Bool.and_eq_true, Bool.or_eq_true, Bool.or_eq_false_iff, Bool.not_false, Bool.not_true, reduceCtorEq, not_true_eq_false, not_false_eq_true] at hg_11_1'
            refine AK.pass rfl rfl (hg_11_1) rfl ?_
            refine AK.pass rfl rfl (hg_11_1) rfl ?_
            refine AK.pass rfl rfl (hg_11_1) rfl ?_
            refine AK.val _ (Yl.pickT rfl (hg_11_1) rfl) trivial rfl ?_
            refine AK.val _ (Yl.assign rfl) trivial rfl ?_
            refine AK.nil ?_
            refine AK.then_ (hK20 _ ?_)
            refine AK.seq (fun _ hK21 => ?_)
            refine AK.region ?_
            refine AK.val _ (Yl.move rfl) trivial rfl ?_
            refine AK.val _ (Yl.lenS un9 rfl) trivial rfl ?_
            refine AK.val _ (Yl.move rfl) trivial rfl ?_
            refine AK.val _ (Yl.lenR sl38 rfl (by first | exact .arg ‹_› | exact .own 0 rfl | exact .own 1 rfl | exact .own 2 rfl | exact .own 3 rfl | exact .own 4 rfl | exact .own 5 rfl | exact .own 6 rfl | exact .own 7 rfl | exact .own 8 rfl | assumption | exact .own 9 rfl | exact .own 10 rfl | exact .own 11 rfl | exact .own 12 rfl)) trivial rfl ?_
            refine AK.val _ (Yl.lss rfl rfl) trivial rfl ?_
            refine AK.nil ?_
            refine AK.then_ (hK21 _ ?_)
            refine AK.condD rfl (fun hc3 => ?_) (fun hc3 => ?_)
            · refine AK.region ?_
              refine AK.val _ (Yl.move rfl) trivial rfl ?_
              refine AK.val _ (Yl.move rfl) trivial rfl ?_
              refine AK.val _ (Yl.lenS un9 rfl) trivial rfl ?_
              first | refine AK.val _ (Yl.idxN sl38 rfl rfl (by first | exact .arg ‹_› | exact .own 0 rfl | exact .own 1 rfl | exact .own 2 rfl | exact .own 3 rfl | exact .own 4 rfl | exact .own 5 rfl | exact .own 6 rfl | exact .own 7 rfl | exact .own 8 rfl | assumption | exact .own 9 rfl | exact .own 10 rfl | exact .own 11 rfl | exact .own 12 rfl) (by decide) (by omega)) trivial rfl ?_ | refine AK.val _ (Yl.idx sl38 rfl rfl (by first | exact .arg ‹_› | exact .own 0 rfl | exact .own 1 rfl | exact .own 2 rfl | exact .own 3 rfl | exact .own 4 rfl | exact .own 5 rfl | exact .own 6 rfl | exact .own 7 rfl | exact .own 8 rfl | assumption | exact .own 9 rfl | exact .own 10 rfl | exact .own 11 rfl | exact .own 12 rfl) (by decide) (by omega)) trivial rfl ?_ | refine AK.val _ (Yl.idxK sl38 rfl rfl (by first | exact .arg ‹_› | exact .own 0 rfl | exact .own 1 rfl | exact .own 2 rfl | exact .own 3 rfl | exact .own 4 rfl | exact .own 5 rfl | exact .own 6 rfl | exact .own 7 rfl | exact .own 8 rfl | assumption | exact .own 9 rfl | exact .own 10 rfl | exact .own 11 rfl | exact .own 12 rfl) (by decide) (by omega)) trivial rfl ?_
              refine AK.val _ (Yl.loadI on3 rfl (by first | exact .arg ‹_› | exact .own 0 rfl | exact .own 1 rfl | exact .own 2 rfl | exact .own 3 rfl | exact .own 4 rfl | exact .own 5 rfl | exact .own 6 rfl | exact .own 7 rfl | exact .own 8 rfl | assumption | exact .own 9 rfl | exact .own 10 rfl | exact .own 11 rfl | exact .own 12 rfl) (by omega)) trivial rfl ?_
              refine AK.val _ (Yl.add rfl rfl (by omega)) trivial rfl ?_
              first | refine AK.val _ (Yl.idxN sl38 rfl rfl (by first | exact .arg ‹_› | exact .own 0 rfl | exact .own 1 rfl | exact .own 2 rfl | exact .own 3 rfl | exact .own 4 rfl | exact .own 5 rfl | exact .own 6 rfl | exact .own 7 rfl | exact .own 8 rfl | assumption | exact .own 9 rfl | exact .own 10 rfl | exact .own 11 rfl | exact .own 12 rfl) (by decide) (by omega)) trivial rfl ?_ | refine AK.val _ (Yl.idx sl38 rfl rfl (by first | exact .arg ‹_› | exact .own 0 rfl | exact .own 1 rfl | exact .own 2 rfl | exact .own 3 rfl | exact .own 4 rfl | exact .own 5 rfl | exact .own 6 rfl | exact .own 7 rfl | exact .own 8 rfl | assumption | exact .own 9 rfl | exact .own 10 rfl | exact .own 11 rfl | exact .own 12 rfl) (by decide) (by omega)) trivial rfl ?_ | refine AK.val _ (Yl.idxK sl38 rfl rfl (by first | exact .arg ‹_› | exact .own 0 rfl | exact .own 1 rfl | exact .own 2 rfl | exact .own 3 rfl | exact .own 4 rfl | exact .own 5 rfl | exact .own 6 rfl | exact .own 7 rfl | exact .own 8 rfl | assumption | exact .own 9 rfl | exact .own 10 rfl | exact .own 11 rfl | exact .own 12 rfl) (by decide) (by omega)) trivial rfl ?_
              refine AK.store1 2 rfl sz3 rfl rfl rfl rfl (by show _ < 9; omega) trivial ?_
              refine AK.nil ?_
              refine AK.block_normal ?_
              refine AK.then_ (hK13 _ ?_)
              refine AK.region ?_
              refine AK.val _ (Yl.add rfl rfl (by omega)) trivial rfl ?_
              refine AK.val _ (Yl.move rfl) trivial rfl ?_
              refine AK.nil ?_
              refine AK.then_ (hK10 _ _ (x + 1) (by omega) (by omega) (.cons ((by rw [mem_take_succ (by omega), hg_11_1]; rfl)) (.cons (rfl) (.cons rfl (.cons rfl (.cons rfl (.cons rfl (.cons rfl (.cons rfl (.nil))))))))) (fun w hw => by rw [cntL_step (by omega)]; first | (rw [List.map_set]; exact hw) | (rw [List.set_eq_of_length_le (by rw [cntL_len]; omega)]; exact hw)))
            · refine AK.skip ?_
              refine AK.block_normal ?_
              refine AK.then_ (hK13 _ ?_)
              refine AK.region ?_
              refine AK.val _ (Yl.add rfl rfl (by omega)) trivial rfl ?_
              refine AK.val _ (Yl.move rfl) trivial rfl ?_
              refine AK.nil ?_
              refine AK.then_ (hK10 _ _ (x + 1) (by omega) (by omega) (.cons ((by rw [mem_take_succ (by omega), hg_11_1]; rfl)) (.cons (rfl) (.cons rfl (.cons rfl (.cons rfl (.cons rfl (.cons rfl (.cons rfl (.nil))))))))) (fun w hw => by rw [cntL_step (by omega)]; first | (rw [List.map_set]; exact hw) | (rw [List.set_eq_of_length_le (by rw [cntL_len]; omega)]; exact hw)))
          · have hg_11_1' := hg_11_1
            try simp only [decide_eq_true_eq, decide_eq_false_iff_not, Bool.not_eq_true', Bool.not_eq_false', Bool.not_not, ne_eq, Decidable.not_not, Int.not_lt, Int.not_le, beq_iff_eq, bne_iff_ne, Bool.and_eq_true, Bool.or_eq_true, Bool.or_eq_false_iff, Bool.not_false, Bool.not_true, reduceCtorEq, not_true_eq_false, not_false_eq_true] at hg_11_1'
            refine AK.val _ (Yl.move rfl) ⟨_, rfl, congrArg (fun b => some (Value.bool b)) hg_11_1⟩ rfl ?_
            refine AK.val _ (Yl.move rfl) ⟨_, rfl, congrArg (fun b => some (Value.bool b)) hg_11_1⟩ rfl ?_
            refine AK.val _ (Yl.eqlS un9 rfl rfl) ⟨_, rfl, congrArg (fun b => some (Value.bool b)) hg_11_1⟩ rfl ?_
            refine AK.val _ (Yl.pickF rfl (hg_11_1) rfl) trivial rfl ?_
            refine AK.val _ (Yl.assign rfl) trivial rfl ?_
            refine AK.nil ?_
            refine AK.then_ (hK20 _ ?_)
            refine AK.seq (fun _ hK22 => ?_)
            refine AK.region ?_
            refine AK.val _ (Yl.move rfl) trivial rfl ?_
            refine AK.val _ (Yl.lenS un9 rfl) trivial rfl ?_
            refine AK.val _ (Yl.move rfl) trivial rfl ?_
            refine AK.val _ (Yl.lenR sl38 rfl (by first | exact .arg ‹_› | exact .own 0 rfl | exact .own 1 rfl | exact .own 2 rfl | exact .own 3 rfl | exact .own 4 rfl | exact .own 5 rfl | exact .own 6 rfl | exact .own 7 rfl | exact .own 8 rfl | assumption | exact .own 9 rfl | exact .own 10 rfl | exact .own 11 rfl | exact .own 12 rfl)) trivial rfl ?_
            refine AK.val _ (Yl.lss rfl rfl) trivial rfl ?_
            refine AK.nil ?_
            refine AK.then_ (hK22 _ ?_)
            refine AK.condD rfl (fun hc3 => ?_) (fun hc3 => ?_)
            · refine AK.region ?_
              refine AK.val _ (Yl.move rfl) trivial rfl ?_
              refine AK.val _ (Yl.move rfl) trivial rfl ?_
              refine AK.val _ (Yl.lenS un9 rfl) trivial rfl ?_
              first | refine AK.val _ (Yl.idxN sl38 rfl rfl (by first | exact .arg ‹_› | exact .own 0 rfl | exact .own 1 rfl | exact .own 2 rfl | exact .own 3 rfl | exact .own 4 rfl | exact .own 5 rfl | exact .own 6 rfl | exact .own 7 rfl | exact .own 8 rfl | assumption | exact .own 9 rfl | exact .own 10 rfl | exact .own 11 rfl | exact .own 12 rfl) (by decide) (by omega)) trivial rfl ?_ | refine AK.val _ (Yl.idx sl38 rfl rfl (by first | exact .arg ‹_› | exact .own 0 rfl | exact .own 1 rfl | exact .own 2 rfl | exact .own 3 rfl | exact .own 4 rfl | exact .own 5 rfl | exact .own 6 rfl | exact .own 7 rfl | exact .own 8 rfl | assumption | exact .own 9 rfl | exact .own 10 rfl | exact .own 11 rfl | exact .own 12 rfl) (by decide) (by omega)) trivial rfl ?_ | refine AK.val _ (Yl.idxK sl38 rfl rfl (by first | exact .arg ‹_› | exact .own 0 rfl | exact .own 1 rfl | exact .own 2 rfl | exact .own 3 rfl | exact .own 4 rfl | exact .own 5 rfl | exact .own 6 rfl | exact .own 7 rfl | exact .own 8 rfl | assumption | exact .own 9 rfl | exact .own 10 rfl | exact .own 11 rfl | exact .own 12 rfl) (by decide) (by omega)) trivial rfl ?_
              refine AK.val _ (Yl.loadI on3 rfl (by first | exact .arg ‹_› | exact .own 0 rfl | exact .own 1 rfl | exact .own 2 rfl | exact .own 3 rfl | exact .own 4 rfl | exact .own 5 rfl | exact .own 6 rfl | exact .own 7 rfl | exact .own 8 rfl | assumption | exact .own 9 rfl | exact .own 10 rfl | exact .own 11 rfl | exact .own 12 rfl) (by omega)) trivial rfl ?_
              refine AK.val _ (Yl.add rfl rfl (by omega)) trivial rfl ?_
              first | refine AK.val _ (Yl.idxN sl38 rfl rfl (by first | exact .arg ‹_› | exact .own 0 rfl | exact .own 1 rfl | exact .own 2 rfl | exact .own 3 rfl | exact .own 4 rfl | exact .own 5 rfl | exact .own 6 rfl | exact .own 7 rfl | exact .own 8 rfl | assumption | exact .own 9 rfl | exact .own 10 rfl | exact .own 11 rfl | exact .own 12 rfl) (by decide) (by omega)) trivial rfl ?_ | refine AK.val _ (Yl.idx sl38 rfl rfl (by first | exact .arg ‹_› | exact .own 0 rfl | exact .own 1 rfl | exact .own 2 rfl | exact .own 3 rfl | exact .own 4 rfl | exact .own 5 rfl | exact .own 6 rfl | exact .own 7 rfl | exact .own 8 rfl | assumption | exact .own 9 rfl | exact .own 10 rfl | exact .own 11 rfl | exact .own 12 rfl) (by decide) (by omega)) trivial rfl ?_ | refine AK.val _ (Yl.idxK sl38 rfl rfl (by first | exact .arg ‹_› | exact .own 0 rfl | exact .own 1 rfl | exact .own 2 rfl | exact .own 3 rfl | exact .own 4 rfl | exact .own 5 rfl | exact .own 6 rfl | exact .own 7 rfl | exact .own 8 rfl | assumption | exact .own 9 rfl | exact .own 10 rfl | exact .own 11 rfl | exact .own 12 rfl) (by decide) (by omega)) trivial rfl ?_
              refine AK.store1 2 rfl sz3 rfl rfl rfl rfl (by show _ < 9; omega) trivial ?_
              refine AK.nil ?_
              refine AK.block_normal ?_
              refine AK.then_ (hK13 _ ?_)
              refine AK.region ?_
              refine AK.val _ (Yl.add rfl rfl (by omega)) trivial rfl ?_
              refine AK.val _ (Yl.move rfl) trivial rfl ?_
              refine AK.nil ?_
              refine AK.then_ (hK10 _ _ (x + 1) (by omega) (by omega) (.cons ((by rw [mem_take_succ (by omega), hg_11_1]; rfl)) (.cons (rfl) (.cons rfl (.cons rfl (.cons rfl (.cons rfl (.cons rfl (.cons rfl (.nil))))))))) (fun w hw => by rw [cntL_step (by omega)]; first | (rw [List.map_set]; exact hw) | (rw [List.set_eq_of_length_le (by rw [cntL_len]; omega)]; exact hw)))
            · refine AK.skip ?_
              refine AK.block_normal ?_
              refine AK.then_ (hK13 _ ?_)
              refine AK.region ?_
              refine AK.val _ (Yl.add rfl rfl (by omega)) trivial rfl ?_
              refine AK.val _ (Yl.move rfl) trivial rfl ?_
              refine AK.nil ?_
              refine AK.then_ (hK10 _ _ (x + 1) (by omega) (by omega) (.cons ((by rw [mem_take_succ (by omega), hg_11_1]; rfl)) (.cons (rfl) (.cons rfl (.cons rfl (.cons rfl (.cons rfl (.cons rfl (.cons rfl (.nil))))))))) (fun w hw => by rw [cntL_step (by omega)]; first | (rw [List.map_set]; exact hw) | (rw [List.set_eq_of_length_le (by rw [cntL_len]; omega)]; exact hw)))
      · obtain rfl : x = (WordsV d 40).length := (by omega)
        have htk : (WordsV d 40).take (WordsV d 40).length = (WordsV d 40) := List.take_length
        have hcl2 := cntL_len (WordsV d 40) (WordsV d 40).length
        refine AK.exit ?_
        refine AK.then_exit ?_
        refine AK.then_exit ?_
        refine AK.block_exit ?_
        refine AK.then_ (hK8 _ ?_)
        refine AK.seq (fun _ hK23 => ?_)
        refine AK.seq (fun _ hK24 => ?_)
        refine AK.region ?_
        refine AK.val _ (Yl.move rfl) trivial rfl ?_
        refine AK.val _ (Yl.lenR sl30 rfl (by first | exact .arg ‹_› | exact .own 0 rfl | exact .own 1 rfl | exact .own 2 rfl | exact .own 3 rfl | exact .own 4 rfl | exact .own 5 rfl | exact .own 6 rfl | exact .own 7 rfl | exact .own 8 rfl | assumption | exact .own 9 rfl | exact .own 10 rfl | exact .own 11 rfl | exact .own 12 rfl)) trivial rfl ?_
        refine AK.val _ (Yl.gtr rfl rfl) trivial rfl ?_
        refine AK.val _ (Yl.move rfl) trivial rfl ?_
        refine AK.splitB (g := 65) rfl (fun hg_15_3 => ?_) (fun hg_15_3 => ?_)
        · have hg_15_3' := hg_15_3
          try simp only [decide_eq_true_eq, decide_eq_false_iff_not, Bool.not_eq_true', Bool.not_eq_false', Bool.not_not, ne_eq, Decidable.not_not, Int.not_lt, Int.not_le, beq_iff_eq, bne_iff_ne, Bool.and_eq_true, Bool.or_eq_true, Bool.or_eq_false_iff, Bool.not_false, Bool.not_true, reduceCtorEq, not_true_eq_false, not_false_eq_true] at hg_15_3'
          refine AK.pass rfl rfl (hg_15_3) rfl ?_
          refine AK.pass rfl rfl (hg_15_3) rfl ?_
          refine AK.pass rfl rfl (hg_15_3) rfl ?_
          refine AK.pass rfl rfl (hg_15_3) rfl ?_
          refine AK.pass rfl rfl trivial rfl ?_
          refine AK.pass rfl rfl trivial rfl ?_
          refine AK.pass rfl rfl (hg_15_3) rfl ?_
          refine AK.pass rfl rfl (hg_15_3) rfl ?_
          refine AK.pass rfl rfl trivial rfl ?_
          refine AK.pass rfl rfl trivial rfl ?_
          refine AK.pass rfl rfl trivial rfl ?_
          refine AK.pass rfl rfl trivial rfl ?_
          refine AK.pass rfl rfl trivial rfl ?_
          refine AK.pass rfl rfl trivial rfl ?_
          refine AK.pass rfl rfl trivial rfl ?_
          refine AK.pass rfl rfl trivial rfl ?_
          refine AK.pass rfl rfl trivial rfl ?_
          refine AK.pass rfl rfl trivial rfl ?_
          refine AK.pass rfl rfl trivial rfl ?_
          refine AK.pass rfl rfl trivial rfl ?_
          refine AK.pass rfl rfl trivial rfl ?_
          refine AK.pass rfl rfl trivial rfl ?_
          refine AK.pass rfl rfl (hg_15_3) rfl ?_
          refine AK.pass rfl rfl (hg_15_3) rfl ?_
          refine AK.pass rfl rfl trivial rfl ?_
          refine AK.pass rfl rfl trivial rfl ?_
          refine AK.pass rfl rfl trivial rfl ?_
          refine AK.pass rfl rfl (hg_15_3) rfl ?_
          refine AK.val _ (Yl.pickT rfl (hg_15_3) rfl) trivial rfl ?_
          refine AK.nil ?_
          refine AK.then_ (hK24 _ ?_)
          refine AK.cond_t rfl (rfl) ?_
          refine AK.seq (fun _ hK25 => ?_)
          refine AK.region ?_
          refine AK.val _ (Yl.assign rfl) trivial rfl ?_
          refine AK.nil ?_
          refine AK.then_ (hK25 _ ?_)
          refine AK.ret ?_
          refine AK.then_ret ?_
          refine AK.ret1 rfl rfl (fun w hw => ⟨_, _, ?_, rfl, Ret.of (hw.pick [] (by decide) rfl rfl)⟩)
          exfalso
          first | (omega; done) | (rw [htk] at hg_15_11'; have hmi := en_miss hv hg_15_7 hg_15_11'; first | (omega; done) | exact hmi.2 (by assumption))
        · have hg_15_3' := hg_15_3
          try simp only [decide_eq_true_eq, decide_eq_false_iff_not, Bool.not_eq_true', Bool.not_eq_false', Bool.not_not, ne_eq, Decidable.not_not, Int.not_lt, Int.not_le, beq_iff_eq, bne_iff_ne, Bool.and_eq_true, Bool.or_eq_true, Bool.or_eq_false_iff, Bool.not_false, Bool.not_true, reduceCtorEq, not_true_eq_false, not_false_eq_true] at hg_15_3'
          refine AK.val _ (Yl.loadBoxG ag25 rfl (by first | exact .own 0 rfl | exact .own 1 rfl | exact .own 2 rfl | exact .own 3 rfl | exact .own 4 rfl | exact .own 5 rfl | exact .own 6 rfl | exact .own 7 rfl | exact .own 8 rfl | exact .own 9 rfl | exact .own 10 rfl | exact .own 11 rfl | exact .own 12 rfl | assumption | exact BoxS.arg (by assumption)) rfl rfl) ⟨_, rfl, congrArg (fun b => some (Value.bool b)) hg_15_3⟩ rfl ?_
          refine AK.val _ (Yl.move rfl) ⟨_, rfl, congrArg (fun b => some (Value.bool b)) hg_15_3⟩ rfl ?_
          refine AK.call co25 rfl (fun w hw => s_acc w _ d (h0.at hw) l hm) ⟨_, rfl, congrArg (fun b => some (Value.bool b)) hg_15_3⟩ rfl ?_
          rintro r o ⟨rfl, rfl⟩
          refine AK.val _ (Yl.move rfl) ⟨_, rfl, congrArg (fun b => some (Value.bool b)) hg_15_3⟩ rfl ?_
          refine AK.splitB (g := 69) rfl (fun hg_15_7 => ?_) (fun hg_15_7 => ?_)
          · have hg_15_7' := hg_15_7
            try simp only [decide_eq_true_eq, decide_eq_false_iff_not, Bool.not_eq_true', Bool.not_eq_false', Bool.not_not, ne_eq, Decidable.not_not, Int.not_lt, Int.not_le, beq_iff_eq, bne_iff_ne, Bool.and_eq_true, Bool.or_eq_true, Bool.or_eq_false_iff, Bool.not_false, Bool.not_true, reduceCtorEq, not_true_eq_false, not_false_eq_true] at hg_15_7'
            refine AK.val _ (Yl.move rfl) ⟨_, rfl, congrArg (fun b => some (Value.bool b)) hg_15_7⟩ rfl ?_
            refine AK.val _ (Yl.not rfl) ⟨_, rfl, congrArg (fun b => some (Value.bool b)) hg_15_7⟩ rfl ?_
            refine AK.val _ (Yl.pickT rfl (hg_15_7) rfl) ⟨_, rfl, congrArg (fun b => some (Value.bool b)) hg_15_3⟩ rfl ?_
            refine AK.val _ (Yl.move rfl) ⟨_, rfl, congrArg (fun b => some (Value.bool b)) hg_15_3⟩ rfl ?_
            refine AK.splitB (g := 73) rfl (fun hg_15_11 => ?_) (fun hg_15_11 => ?_)
            · have hg_15_11' := hg_15_11
              try simp only [decide_eq_true_eq, decide_eq_false_iff_not, Bool.not_eq_true', Bool.not_eq_false', Bool.not_not, ne_eq, Decidable.not_not, Int.not_lt, Int.not_le, beq_iff_eq, bne_iff_ne, Bool.and_eq_true, Bool.or_eq_true, Bool.or_eq_false_iff, Bool.not_false, Bool.not_true, reduceCtorEq, not_true_eq_false, not_false_eq_true] at hg_15_11'
              refine AK.val _ (Yl.move rfl) ⟨_, rfl, congrArg (fun b => some (Value.bool b)) hg_15_11⟩ rfl ?_
              refine AK.val _ (Yl.lenR sl30 rfl (by first | exact .arg ‹_› | exact .own 0 rfl | exact .own 1 rfl | exact .own 2 rfl | exact .own 3 rfl | exact .own 4 rfl | exact .own 5 rfl | exact .own 6 rfl | exact .own 7 rfl | exact .own 8 rfl | assumption | exact .own 9 rfl | exact .own 10 rfl | exact .own 11 rfl | exact .own 12 rfl)) ⟨_, rfl, congrArg (fun b => some (Value.bool b)) hg_15_11⟩ rfl ?_
              refine AK.val _ (Yl.lss rfl rfl) ⟨_, rfl, congrArg (fun b => some (Value.bool b)) hg_15_11⟩ rfl ?_
              refine AK.val _ (Yl.move rfl) ⟨_, rfl, congrArg (fun b => some (Value.bool b)) hg_15_11⟩ rfl ?_
              refine AK.splitB (g := 77) rfl (fun hg_15_15 => ?_) (fun hg_15_15 => ?_)
              · have hg_15_15' := hg_15_15
                try simp only [decide_eq_true_eq, decide_eq_false_iff_not, Bool.not_eq_true', Bool.not_eq_false', Bool.not_not, ne_eq, Decidable.not_not, Int.not_lt, Int.not_le, beq_iff_eq, bne_iff_ne, Bool.and_eq_true, Bool.or_eq_true, Bool.or_eq_false_iff, Bool.not_false, Bool.not_true, reduceCtorEq, not_true_eq_false, not_false_eq_true] at hg_15_15'
                refine AK.pass rfl rfl (hg_15_15) rfl ?_
                refine AK.pass rfl rfl (hg_15_15) rfl ?_
                refine AK.pass rfl rfl (hg_15_15) rfl ?_
                refine AK.pass rfl rfl (hg_15_15) rfl ?_
                refine AK.pass rfl rfl (hg_15_15) rfl ?_
                refine AK.pass rfl rfl (hg_15_15) rfl ?_
                refine AK.pass rfl rfl (hg_15_15) rfl ?_
                refine AK.pass rfl rfl (hg_15_15) rfl ?_
                refine AK.pass rfl rfl (hg_15_15) rfl ?_
                refine AK.val _ (Yl.pickT rfl (hg_15_15) rfl) ⟨_, rfl, congrArg (fun b => some (Value.bool b)) hg_15_11⟩ rfl ?_
                refine AK.val _ (Yl.pickT rfl (hg_15_11) rfl) ⟨_, rfl, congrArg (fun b => some (Value.bool b)) hg_15_3⟩ rfl ?_
                refine AK.val _ (Yl.move rfl) ⟨_, rfl, congrArg (fun b => some (Value.bool b)) hg_15_3⟩ rfl ?_
                refine AK.val _ (Yl.move rfl) ⟨_, rfl, rfl⟩ rfl ?_
                refine AK.val _ (Yl.lenS un9 rfl) ⟨_, rfl, rfl⟩ rfl ?_
                refine AK.val _ (Yl.leq rfl rfl) ⟨_, rfl, rfl⟩ rfl ?_
                refine AK.val _ (Yl.pickT rfl (rfl) rfl) ⟨_, rfl, congrArg (fun b => some (Value.bool b)) hg_15_3⟩ rfl ?_
                refine AK.val _ (Yl.pickF rfl (hg_15_3) rfl) trivial rfl ?_
                refine AK.nil ?_
                refine AK.then_ (hK24 _ ?_)
                refine AK.condD rfl (fun hc4 => ?_) (fun hc4 => ?_)
                · refine AK.seq (fun _ hK26 => ?_)
                  refine AK.region ?_
                  refine AK.val _ (Yl.assign rfl) trivial rfl ?_
                  refine AK.nil ?_
                  refine AK.then_ (hK26 _ ?_)
                  refine AK.ret ?_
                  refine AK.then_ret ?_
                  refine AK.ret1 rfl rfl (fun w hw => ⟨_, _, ?_, rfl, Ret.of (hw.pick [] (by decide) rfl rfl)⟩)
                  exfalso
                  first | (omega; done) | (rw [htk] at hg_15_11'; have hmi := en_miss hv hg_15_7 hg_15_11'; first | (omega; done) | exact hmi.2 (by assumption))
                · refine AK.skip ?_
                  refine AK.then_ (hK23 _ ?_)
                  refine AK.seq (fun _ hK27 => ?_)
                  refine AK.seq (fun _ hK28 => ?_)
                  refine AK.region ?_
                  refine AK.val _ (Yl.move rfl) trivial rfl ?_
                  refine AK.val _ (Yl.lenR sl38 rfl (by first | exact .arg ‹_› | exact .own 0 rfl | exact .own 1 rfl | exact .own 2 rfl | exact .own 3 rfl | exact .own 4 rfl | exact .own 5 rfl | exact .own 6 rfl | exact .own 7 rfl | exact .own 8 rfl | assumption | exact .own 9 rfl | exact .own 10 rfl | exact .own 11 rfl | exact .own 12 rfl)) trivial rfl ?_
                  refine AK.val _ (Yl.move rfl) trivial rfl ?_
                  refine AK.nil ?_
                  refine AK.then_ (hK28 _ ?_)
                  refine AK.block ?_
                  refine AK.loopK (X := Nat) [(2, _), (5, _), (7, _), (96, _)] (fun k => [(97, .int .i64 (k : Int))]) (fun k => [box bx2 25 4 [.int .i64 d.L, .int .i64 d.s, vF, vN], row ws 9 1 (WordsV d 40).length ((WordsV d 40).map sv), row cv 3 1 9 ((cntL (WordsV d 40) (WordsV d 40).length).map (Value.int .i64))]) (fun k => k ≤ 9) (fun k => 9 - k) (0) (.cons rfl (.cons rfl (.cons rfl (.cons rfl (.nil))))) ?_ ?_ ?_ ?_
                  · exact Nat.zero_le _
                  · exact .cons (rfl) (.nil)
                  · exact fun w hw => hw
                  · intro k hg1 _ hK29
                    refine AK.seq (fun _ hK30 => ?_)
                    refine AK.region ?_
                    refine AK.val _ (Yl.lss rfl rfl) trivial rfl ?_
                    refine AK.nil ?_
                    refine AK.then_ (hK30 _ ?_)
                    refine AK.seq (fun _ hK31 => ?_)
                    refine AK.condD rfl (fun hc5 => ?_) (fun hc5 => ?_)
                    · refine AK.skip ?_
                      refine AK.then_ (hK31 _ ?_)
                      refine AK.seq (fun _ hK32 => ?_)
                      refine AK.block ?_
                      refine AK.seq (fun _ hK33 => ?_)
                      refine AK.region ?_
                      refine AK.val _ (Yl.move rfl) trivial rfl ?_
                      refine AK.val _ (Yl.assign rfl) trivial rfl ?_
                      refine AK.nil ?_
                      refine AK.then_ (hK33 _ ?_)
                      refine AK.seq (fun _ hK34 => ?_)
                      try (conv => enter [2, 2]; dsimp only [List.set_cons_zero, List.set_cons_succ, List.cons_append, List.nil_append])
                      refine AK.held 24 mixed ?_
                      refine HeldK.first 0 (fuel := 23) (listed' := #[true, false, false, false, false, false, false, false, false, false, false, false, false, false, false, false, false, false, false, false, false, false, false, false]) _ rfl (by kernel_rfl) rfl rfl (Yl.move rfl) trivial rfl ?_
                      refine HeldK.first 1 (fuel := 22) (listed' := #[true, true, false, false, false, false, false, false, false, false, false, false, false, false, false, false, false, false, false, false, false, false, false, false]) _ rfl (by kernel_rfl) rfl rfl (Yl.lenR sl30 rfl (by first | exact .arg ‹_› | exact .own 0 rfl | exact .own 1 rfl | exact .own 2 rfl | exact .own 3 rfl | exact .own 4 rfl | exact .own 5 rfl | exact .own 6 rfl | exact .own 7 rfl | exact .own 8 rfl | assumption | exact .own 9 rfl | exact .own 10 rfl | exact .own 11 rfl | exact .own 12 rfl)) trivial rfl ?_
                      refine HeldK.first 2 (fuel := 21) (listed' := #[true, true, true, false, false, false, false, false, false, false, false, false, false, false, false, false, false, false, false, false, false, false, false, false]) _ rfl (by kernel_rfl) rfl rfl (Yl.lss rfl rfl) trivial rfl ?_
                      refine HeldK.first 3 (fuel := 20) (listed' := #[true, true, true, true, false, false, false, false, false, false, false, false, false, false, false, false, false, false, false, false, false, false, false, false]) _ rfl (by kernel_rfl) rfl rfl (Yl.move rfl) trivial rfl ?_
                      refine AK.splitB (g := 103) rfl (fun hg_20_3 => ?_) (fun hg_20_3 => ?_)
                      · have hg_20_3' := hg_20_3
                        try simp only [decide_eq_true_eq, decide_eq_false_iff_not, Bool.not_eq_true', Bool.not_eq_false', Bool.not_not, ne_eq, Decidable.not_not, Int.not_lt, Int.not_le, beq_iff_eq, bne_iff_ne, Bool.and_eq_true, Bool.or_eq_true, Bool.or_eq_false_iff, Bool.not_false, Bool.not_true, reduceCtorEq, not_true_eq_false, not_false_eq_true] at hg_20_3'
                        refine HeldK.pass 4 (fuel := 19) (listed' := #[true, true, true, true, true, false, false, false, false, false, false, false, false, false, false, false, false, false, false, false, false, false, false, false]) rfl (by kernel_rfl) rfl rfl rfl (hg_20_3) rfl ?_
                        refine HeldK.pass 5 (fuel := 18) (listed' := #[true, true, true, true, true, true, false, false, false, false, false, false, false, false, false, false, false, false, false, false, false, false, false, false]) rfl (by kernel_rfl) rfl rfl rfl (hg_20_3) rfl ?_
                        refine HeldK.pass 6 (fuel := 17) (listed' := #[true, true, true, true, true, true, true, false, false, false, false, false, false, false, false, false, false, false, false, false, false, false, false, false]) rfl (by kernel_rfl) rfl rfl rfl (hg_20_3) rfl ?_
                        refine HeldK.pass 7 (fuel := 16) (listed' := #[true, true, true, true, true, true, true, true, false, false, false, false, false, false, false, false, false, false, false, false, false, false, false, false]) rfl (by kernel_rfl) rfl rfl rfl (hg_20_3) rfl ?_
                        refine HeldK.pass 8 (fuel := 15) (listed' := #[true, true, true, true, true, true, true, true, true, false, false, false, false, false, false, false, false, false, false, false, false, false, false, false]) rfl (by kernel_rfl) rfl rfl rfl (hg_20_3) rfl ?_
                        refine HeldK.pass 9 (fuel := 14) (listed' := #[true, true, true, true, true, true, true, true, true, true, false, false, false, false, false, false, false, false, false, false, false, false, false, false]) rfl (by kernel_rfl) rfl rfl rfl (hg_20_3) rfl ?_
                        refine HeldK.pass 10 (fuel := 13) (listed' := #[true, true, true, true, true, true, true, true, true, true, true, false, false, false, false, false, false, false, false, false, false, false, false, false]) rfl (by kernel_rfl) rfl rfl rfl (hg_20_3) rfl ?_
                        refine HeldK.pass 11 (fuel := 12) (listed' := #[true, true, true, true, true, true, true, true, true, true, true, true, false, false, false, false, false, false, false, false, false, false, false, false]) rfl (by kernel_rfl) rfl rfl rfl (hg_20_3) rfl ?_
                        refine HeldK.pass 12 (fuel := 11) (listed' := #[true, true, true, true, true, true, true, true, true, true, true, true, true, false, false, false, false, false, false, false, false, false, false, false]) rfl (by kernel_rfl) rfl rfl rfl (hg_20_3) rfl ?_
                        refine HeldK.first 13 (fuel := 10) (listed' := #[true, true, true, true, true, true, true, true, true, true, true, true, true, true, false, false, false, false, false, false, false, false, false, false]) _ rfl (by kernel_rfl) rfl rfl (Yl.pickT rfl (hg_20_3) rfl) trivial rfl ?_
                        refine HeldK.first 14 (fuel := 9) (listed' := #[true, true, true, true, true, true, true, true, true, true, true, true, true, true, true, false, false, false, false, false, false, false, false, false]) _ rfl (by kernel_rfl) rfl rfl (Yl.move rfl) trivial rfl ?_
                        refine HeldK.first 15 (fuel := 8) (listed' := #[true, true, true, true, true, true, true, true, true, true, true, true, true, true, true, true, false, false, false, false, false, false, false, false]) _ rfl (by kernel_rfl) rfl rfl (Yl.loadBoxG ag25 rfl (by first | exact .own 0 rfl | exact .own 1 rfl | exact .own 2 rfl | exact .own 3 rfl | exact .own 4 rfl | exact .own 5 rfl | exact .own 6 rfl | exact .own 7 rfl | exact .own 8 rfl | exact .own 9 rfl | exact .own 10 rfl | exact .own 11 rfl | exact .own 12 rfl | assumption | exact BoxS.arg (by assumption)) rfl rfl) ⟨_, rfl, rfl⟩ rfl ?_
                        refine HeldK.first 16 (fuel := 7) (listed' := #[true, true, true, true, true, true, true, true, true, true, true, true, true, true, true, true, true, false, false, false, false, false, false, false]) _ rfl (by kernel_rfl) rfl rfl (Yl.move rfl) ⟨_, rfl, rfl⟩ rfl ?_
                        refine HeldK.first 18 (fuel := 6) (listed' := #[true, true, true, true, true, true, true, true, true, true, true, true, true, true, true, true, true, false, true, false, false, false, false, false]) _ rfl (by kernel_rfl) rfl rfl (Yl.move rfl) ⟨_, rfl, rfl⟩ rfl ?_
                        refine HeldK.first 19 (fuel := 5) (listed' := #[true, true, true, true, true, true, true, true, true, true, true, true, true, true, true, true, true, false, true, true, false, false, false, false]) _ rfl (by kernel_rfl) rfl rfl (Yl.move rfl) ⟨_, rfl, rfl⟩ rfl ?_
                        first | refine HeldK.first 20 (fuel := 4) (listed' := #[true, true, true, true, true, true, true, true, true, true, true, true, true, true, true, true, true, false, true, true, true, false, false, false]) _ rfl (by kernel_rfl) rfl rfl (Yl.idxN sl38 rfl rfl (by first | exact .arg ‹_› | exact .own 0 rfl | exact .own 1 rfl | exact .own 2 rfl | exact .own 3 rfl | exact .own 4 rfl | exact .own 5 rfl | exact .own 6 rfl | exact .own 7 rfl | exact .own 8 rfl | assumption | exact .own 9 rfl | exact .own 10 rfl | exact .own 11 rfl | exact .own 12 rfl) (by decide) (by omega)) ⟨_, rfl, rfl⟩ rfl ?_ | refine HeldK.first 20 (fuel := 4) (listed' := #[true, true, true, true, true, true, true, true, true, true, true, true, true, true, true, true, true, false, true, true, true, false, false, false]) _ rfl (by kernel_rfl) rfl rfl (Yl.idx sl38 rfl rfl (by first | exact .arg ‹_› | exact .own 0 rfl | exact .own 1 rfl | exact .own 2 rfl | exact .own 3 rfl | exact .own 4 rfl | exact .own 5 rfl | exact .own 6 rfl | exact .own 7 rfl | exact .own 8 rfl | assumption | exact .own 9 rfl | exact .own 10 rfl | exact .own 11 rfl | exact .own 12 rfl) (by decide) (by omega)) ⟨_, rfl, rfl⟩ rfl ?_ | refine HeldK.first 20 (fuel := 4) (listed' := #[true, true, true, true, true, true, true, true, true, true, true, true, true, true, true, true, true, false, true, true, true, false, false, false]) _ rfl (by kernel_rfl) rfl rfl (Yl.idxK sl38 rfl rfl (by first | exact .arg ‹_› | exact .own 0 rfl | exact .own 1 rfl | exact .own 2 rfl | exact .own 3 rfl | exact .own 4 rfl | exact .own 5 rfl | exact .own 6 rfl | exact .own 7 rfl | exact .own 8 rfl | assumption | exact .own 9 rfl | exact .own 10 rfl | exact .own 11 rfl | exact .own 12 rfl) (by decide) (by omega)) ⟨_, rfl, rfl⟩ rfl ?_
                        refine HeldK.first 21 (fuel := 3) (listed' := #[true, true, true, true, true, true, true, true, true, true, true, true, true, true, true, true, true, false, true, true, true, true, false, false]) _ rfl (by kernel_rfl) rfl rfl (Yl.loadI on3 rfl (by first | exact .arg ‹_› | exact .own 0 rfl | exact .own 1 rfl | exact .own 2 rfl | exact .own 3 rfl | exact .own 4 rfl | exact .own 5 rfl | exact .own 6 rfl | exact .own 7 rfl | exact .own 8 rfl | assumption | exact .own 9 rfl | exact .own 10 rfl | exact .own 11 rfl | exact .own 12 rfl) (by omega)) ⟨_, rfl, rfl⟩ rfl ?_
                        refine HeldK.one 17 (fuel := 2) (listed' := #[true, true, true, true, true, true, true, true, true, true, true, true, true, true, true, true, true, true, true, true, true, true, false, false]) (by kernel_rfl) rfl rfl ?_
                        refine AK.call co22 rfl (fun w hw => s_count w _ d (h0.at hw) (k : Int)) ⟨_, rfl, rfl⟩ rfl ?_
                        rintro r o ⟨rfl, rfl⟩
                        refine AK.nil ?_
                        try (conv => enter [2, 2]; dsimp only [List.set_cons_zero, List.set_cons_succ, List.cons_append, List.nil_append])
                        refine HeldK.back (by repeat (first | exact HWle.nil | refine HWle.cons Ale.rfl ?_ | refine HWle.cons Ale.fst ?_)) ?_
                        refine HeldK.first 22 (fuel := 1) (listed' := #[true, true, true, true, true, true, true, true, true, true, true, true, true, true, true, true, true, true, true, true, true, true, true, false]) _ rfl (by kernel_rfl) rfl rfl (Yl.neq rfl rfl) ⟨_, rfl, rfl⟩ rfl ?_
                        refine HeldK.first 23 (fuel := 0) (listed' := #[true, true, true, true, true, true, true, true, true, true, true, true, true, true, true, true, true, true, true, true, true, true, true, true]) _ rfl (by kernel_rfl) rfl rfl (Yl.pickT rfl (rfl) rfl) trivial rfl ?_
                        refine HeldK.done (by kernel_rfl) ?_
                        refine AK.then_ (hK34 _ ?_)
                        refine AK.condNe rfl (fun hc6 => ?_) (fun hc6 => ?_)
                        · refine AK.seq (fun _ hK35 => ?_)
                          refine AK.region ?_
                          refine AK.val _ (Yl.assign rfl) trivial rfl ?_
                          refine AK.nil ?_
                          refine AK.then_ (hK35 _ ?_)
                          refine AK.ret ?_
                          refine AK.block_ret ?_
                          refine AK.then_ret ?_
                          refine AK.then_ret ?_
                          refine AK.block_ret ?_
                          refine AK.then_ret ?_
                          refine AK.ret1 rfl rfl (fun w hw => ⟨_, _, ?_, rfl, Ret.of (hw.pick [] (by decide) rfl rfl)⟩)
                          exfalso
                          refine hc6 ?_
                          rw [cntL_get _ _ (by omega), htk]
                          have ec : (WordsV d 40).length < 40 ∨ k < ((WordsV d 40).getD ((WordsV d 40).length - 1) []).length → (((WordsV d 40).countP (ofL k) : Nat) : Int) = CountV d k := fun h => en_count hv (n := 40) (by omega) (by omega) h
                          exact (ec (by first | exact .inl (by omega) | exact .inr (by rw [← en_last]; omega))).symm
                        · refine AK.skip ?_
                          refine AK.block_normal ?_
                          refine AK.then_ (hK32 _ ?_)
                          refine AK.region ?_
                          refine AK.val _ (Yl.add rfl rfl (by omega)) trivial rfl ?_
                          refine AK.val _ (Yl.move rfl) trivial rfl ?_
                          refine AK.nil ?_
                          refine AK.then_ (hK29 _ _ (k + 1) (by omega) (by omega) (.cons (rfl) (.cons rfl (.cons rfl (.cons rfl (.cons rfl (.nil)))))) (fun w hw => hw))
                      · have hg_20_3' := hg_20_3
                        try simp only [decide_eq_true_eq, decide_eq_false_iff_not, Bool.not_eq_true', Bool.not_eq_false', Bool.not_not, ne_eq, Decidable.not_not, Int.not_lt, Int.not_le, beq_iff_eq, bne_iff_ne, Bool.and_eq_true, Bool.or_eq_true, Bool.or_eq_false_iff, Bool.not_false, Bool.not_true, reduceCtorEq, not_true_eq_false, not_false_eq_true] at hg_20_3'
                        refine HeldK.first 4 (fuel := 19) (listed' := #[true, true, true, true, true, false, false, false, false, false, false, false, false, false, false, false, false, false, false, false, false, false, false, false]) _ rfl (by kernel_rfl) rfl rfl (Yl.move rfl) ⟨_, rfl, congrArg (fun b => some (Value.bool b)) hg_20_3⟩ rfl ?_
                        refine HeldK.first 5 (fuel := 18) (listed' := #[true, true, true, true, true, true, false, false, false, false, false, false, false, false, false, false, false, false, false, false, false, false, false, false]) _ rfl (by kernel_rfl) rfl rfl (Yl.move rfl) ⟨_, rfl, congrArg (fun b => some (Value.bool b)) hg_20_3⟩ rfl ?_
                        refine HeldK.first 6 (fuel := 17) (listed' := #[true, true, true, true, true, true, true, false, false, false, false, false, false, false, false, false, false, false, false, false, false, false, false, false]) _ rfl (by kernel_rfl) rfl rfl (Yl.lenR sl30 rfl (by first | exact .arg ‹_› | exact .own 0 rfl | exact .own 1 rfl | exact .own 2 rfl | exact .own 3 rfl | exact .own 4 rfl | exact .own 5 rfl | exact .own 6 rfl | exact .own 7 rfl | exact .own 8 rfl | assumption | exact .own 9 rfl | exact .own 10 rfl | exact .own 11 rfl | exact .own 12 rfl)) ⟨_, rfl, congrArg (fun b => some (Value.bool b)) hg_20_3⟩ rfl ?_
                        refine HeldK.first 7 (fuel := 16) (listed' := #[true, true, true, true, true, true, true, true, false, false, false, false, false, false, false, false, false, false, false, false, false, false, false, false]) _ rfl (by kernel_rfl) rfl rfl (Yl.sub rfl rfl (by omega)) ⟨_, rfl, congrArg (fun b => some (Value.bool b)) hg_20_3⟩ rfl ?_
                        first | refine HeldK.first 8 (fuel := 15) (listed' := #[true, true, true, true, true, true, true, true, true, false, false, false, false, false, false, false, false, false, false, false, false, false, false, false]) _ rfl (by kernel_rfl) rfl rfl (Yl.idxN sl30 rfl rfl (by first | exact .arg ‹_› | exact .own 0 rfl | exact .own 1 rfl | exact .own 2 rfl | exact .own 3 rfl | exact .own 4 rfl | exact .own 5 rfl | exact .own 6 rfl | exact .own 7 rfl | exact .own 8 rfl | assumption | exact .own 9 rfl | exact .own 10 rfl | exact .own 11 rfl | exact .own 12 rfl) (by decide) (by omega)) ⟨_, rfl, congrArg (fun b => some (Value.bool b)) hg_20_3⟩ rfl ?_ | refine HeldK.first 8 (fuel := 15) (listed' := #[true, true, true, true, true, true, true, true, true, false, false, false, false, false, false, false, false, false, false, false, false, false, false, false]) _ rfl (by kernel_rfl) rfl rfl (Yl.idx sl30 rfl rfl (by first | exact .arg ‹_› | exact .own 0 rfl | exact .own 1 rfl | exact .own 2 rfl | exact .own 3 rfl | exact .own 4 rfl | exact .own 5 rfl | exact .own 6 rfl | exact .own 7 rfl | exact .own 8 rfl | assumption | exact .own 9 rfl | exact .own 10 rfl | exact .own 11 rfl | exact .own 12 rfl) (by decide) (by omega)) ⟨_, rfl, congrArg (fun b => some (Value.bool b)) hg_20_3⟩ rfl ?_ | refine HeldK.first 8 (fuel := 15) (listed' := #[true, true, true, true, true, true, true, true, true, false, false, false, false, false, false, false, false, false, false, false, false, false, false, false]) _ rfl (by kernel_rfl) rfl rfl (Yl.idxK sl30 rfl rfl (by first | exact .arg ‹_› | exact .own 0 rfl | exact .own 1 rfl | exact .own 2 rfl | exact .own 3 rfl | exact .own 4 rfl | exact .own 5 rfl | exact .own 6 rfl | exact .own 7 rfl | exact .own 8 rfl | assumption | exact .own 9 rfl | exact .own 10 rfl | exact .own 11 rfl | exact .own 12 rfl) (by decide) (by omega)) ⟨_, rfl, congrArg (fun b => some (Value.bool b)) hg_20_3⟩ rfl ?_
                        refine HeldK.first 9 (fuel := 14) (listed' := #[true, true, true, true, true, true, true, true, true, true, false, false, false, false, false, false, false, false, false, false, false, false, false, false]) _ rfl (by kernel_rfl) rfl rfl (Yl.loadS on9 rfl (by first | exact .arg ‹_› | exact .own 0 rfl | exact .own 1 rfl | exact .own 2 rfl | exact .own 3 rfl | exact .own 4 rfl | exact .own 5 rfl | exact .own 6 rfl | exact .own 7 rfl | exact .own 8 rfl | assumption | exact .own 9 rfl | exact .own 10 rfl | exact .own 11 rfl | exact .own 12 rfl) (by omega)) ⟨_, rfl, congrArg (fun b => some (Value.bool b)) hg_20_3⟩ rfl ?_
                        refine HeldK.first 10 (fuel := 13) (listed' := #[true, true, true, true, true, true, true, true, true, true, true, false, false, false, false, false, false, false, false, false, false, false, false, false]) _ rfl (by kernel_rfl) rfl rfl (Yl.lenS un9 rfl) ⟨_, rfl, congrArg (fun b => some (Value.bool b)) hg_20_3⟩ rfl ?_
                        refine HeldK.first 11 (fuel := 12) (listed' := #[true, true, true, true, true, true, true, true, true, true, true, true, false, false, false, false, false, false, false, false, false, false, false, false]) _ rfl (by kernel_rfl) rfl rfl (Yl.move rfl) ⟨_, rfl, congrArg (fun b => some (Value.bool b)) hg_20_3⟩ rfl ?_
                        refine HeldK.first 12 (fuel := 11) (listed' := #[true, true, true, true, true, true, true, true, true, true, true, true, true, false, false, false, false, false, false, false, false, false, false, false]) _ rfl (by kernel_rfl) rfl rfl (Yl.gtr rfl rfl) ⟨_, rfl, congrArg (fun b => some (Value.bool b)) hg_20_3⟩ rfl ?_
                        refine HeldK.first 13 (fuel := 10) (listed' := #[true, true, true, true, true, true, true, true, true, true, true, true, true, true, false, false, false, false, false, false, false, false, false, false]) _ rfl (by kernel_rfl) rfl rfl (Yl.pickF rfl (hg_20_3) rfl) trivial rfl ?_
                        refine HeldK.first 14 (fuel := 9) (listed' := #[true, true, true, true, true, true, true, true, true, true, true, true, true, true, true, false, false, false, false, false, false, false, false, false]) _ rfl (by kernel_rfl) rfl rfl (Yl.move rfl) trivial rfl ?_
                        refine AK.splitB (g := 114) rfl (fun hg_20_14 => ?_) (fun hg_20_14 => ?_)
                        · have hg_20_14' := hg_20_14
                          try simp only [decide_eq_true_eq, decide_eq_false_iff_not, Bool.not_eq_true', Bool.not_eq_false', Bool.not_not, ne_eq, Decidable.not_not, Int.not_lt, Int.not_le, beq_iff_eq, bne_iff_ne, Bool.and_eq_true, Bool.or_eq_true, Bool.or_eq_false_iff, Bool.not_false, Bool.not_true, reduceCtorEq, not_true_eq_false, not_false_eq_true] at hg_20_14'
                          refine HeldK.first 15 (fuel := 8) (listed' := #[true, true, true, true, true, true, true, true, true, true, true, true, true, true, true, true, false, false, false, false, false, false, false, false]) _ rfl (by kernel_rfl) rfl rfl (Yl.loadBoxG ag25 rfl (by first | exact .own 0 rfl | exact .own 1 rfl | exact .own 2 rfl | exact .own 3 rfl | exact .own 4 rfl | exact .own 5 rfl | exact .own 6 rfl | exact .own 7 rfl | exact .own 8 rfl | exact .own 9 rfl | exact .own 10 rfl | exact .own 11 rfl | exact .own 12 rfl | assumption | exact BoxS.arg (by assumption)) rfl rfl) ⟨_, rfl, congrArg (fun b => some (Value.bool b)) hg_20_14⟩ rfl ?_
                          refine HeldK.first 16 (fuel := 7) (listed' := #[true, true, true, true, true, true, true, true, true, true, true, true, true, true, true, true, true, false, false, false, false, false, false, false]) _ rfl (by kernel_rfl) rfl rfl (Yl.move rfl) ⟨_, rfl, congrArg (fun b => some (Value.bool b)) hg_20_14⟩ rfl ?_
                          refine HeldK.first 18 (fuel := 6) (listed' := #[true, true, true, true, true, true, true, true, true, true, true, true, true, true, true, true, true, false, true, false, false, false, false, false]) _ rfl (by kernel_rfl) rfl rfl (Yl.move rfl) ⟨_, rfl, congrArg (fun b => some (Value.bool b)) hg_20_14⟩ rfl ?_
                          refine HeldK.first 19 (fuel := 5) (listed' := #[true, true, true, true, true, true, true, true, true, true, true, true, true, true, true, true, true, false, true, true, false, false, false, false]) _ rfl (by kernel_rfl) rfl rfl (Yl.move rfl) ⟨_, rfl, congrArg (fun b => some (Value.bool b)) hg_20_14⟩ rfl ?_
                          first | refine HeldK.first 20 (fuel := 4) (listed' := #[true, true, true, true, true, true, true, true, true, true, true, true, true, true, true, true, true, false, true, true, true, false, false, false]) _ rfl (by kernel_rfl) rfl rfl (Yl.idxN sl38 rfl rfl (by first | exact .arg ‹_› | exact .own 0 rfl | exact .own 1 rfl | exact .own 2 rfl | exact .own 3 rfl | exact .own 4 rfl | exact .own 5 rfl | exact .own 6 rfl | exact .own 7 rfl | exact .own 8 rfl | assumption | exact .own 9 rfl | exact .own 10 rfl | exact .own 11 rfl | exact .own 12 rfl) (by decide) (by omega)) ⟨_, rfl, congrArg (fun b => some (Value.bool b)) hg_20_14⟩ rfl ?_ | refine HeldK.first 20 (fuel := 4) (listed' := #[true, true, true, true, true, true, true, true, true, true, true, true, true, true, true, true, true, false, true, true, true, false, false, false]) _ rfl (by kernel_rfl) rfl rfl (Yl.idx sl38 rfl rfl (by first | exact .arg ‹_› | exact .own 0 rfl | exact .own 1 rfl | exact .own 2 rfl | exact .own 3 rfl | exact .own 4 rfl | exact .own 5 rfl | exact .own 6 rfl | exact .own 7 rfl | exact .own 8 rfl | assumption | exact .own 9 rfl | exact .own 10 rfl | exact .own 11 rfl | exact .own 12 rfl) (by decide) (by omega)) ⟨_, rfl, congrArg (fun b => some (Value.bool b)) hg_20_14⟩ rfl ?_ | refine HeldK.first 20 (fuel := 4) (listed' := #[true, true, true, true, true, true, true, true, true, true, true, true, true, true, true, true, true, false, true, true, true, false, false, false]) _ rfl (by kernel_rfl) rfl rfl (Yl.idxK sl38 rfl rfl (by first | exact .arg ‹_› | exact .own 0 rfl | exact .own 1 rfl | exact .own 2 rfl | exact .own 3 rfl | exact .own 4 rfl | exact .own 5 rfl | exact .own 6 rfl | exact .own 7 rfl | exact .own 8 rfl | assumption | exact .own 9 rfl | exact .own 10 rfl | exact .own 11 rfl | exact .own 12 rfl) (by decide) (by omega)) ⟨_, rfl, congrArg (fun b => some (Value.bool b)) hg_20_14⟩ rfl ?_
                          refine HeldK.first 21 (fuel := 3) (listed' := #[true, true, true, true, true, true, true, true, true, true, true, true, true, true, true, true, true, false, true, true, true, true, false, false]) _ rfl (by kernel_rfl) rfl rfl (Yl.loadI on3 rfl (by first | exact .arg ‹_› | exact .own 0 rfl | exact .own 1 rfl | exact .own 2 rfl | exact .own 3 rfl | exact .own 4 rfl | exact .own 5 rfl | exact .own 6 rfl | exact .own 7 rfl | exact .own 8 rfl | assumption | exact .own 9 rfl | exact .own 10 rfl | exact .own 11 rfl | exact .own 12 rfl) (by omega)) ⟨_, rfl, congrArg (fun b => some (Value.bool b)) hg_20_14⟩ rfl ?_
                          refine HeldK.one 17 (fuel := 2) (listed' := #[true, true, true, true, true, true, true, true, true, true, true, true, true, true, true, true, true, true, true, true, true, true, false, false]) (by kernel_rfl) rfl rfl ?_
                          refine AK.call co22 rfl (fun w hw => s_count w _ d (h0.at hw) (k : Int)) ⟨_, rfl, congrArg (fun b => some (Value.bool b)) hg_20_14⟩ rfl ?_
                          rintro r o ⟨rfl, rfl⟩
                          refine AK.nil ?_
                          try (conv => enter [2, 2]; dsimp only [List.set_cons_zero, List.set_cons_succ, List.cons_append, List.nil_append])
                          refine HeldK.back (by repeat (first | exact HWle.nil | refine HWle.cons Ale.rfl ?_ | refine HWle.cons Ale.fst ?_)) ?_
                          refine HeldK.first 22 (fuel := 1) (listed' := #[true, true, true, true, true, true, true, true, true, true, true, true, true, true, true, true, true, true, true, true, true, true, true, false]) _ rfl (by kernel_rfl) rfl rfl (Yl.neq rfl rfl) ⟨_, rfl, congrArg (fun b => some (Value.bool b)) hg_20_14⟩ rfl ?_
                          refine HeldK.first 23 (fuel := 0) (listed' := #[true, true, true, true, true, true, true, true, true, true, true, true, true, true, true, true, true, true, true, true, true, true, true, true]) _ rfl (by kernel_rfl) rfl rfl (Yl.pickT rfl (hg_20_14) rfl) trivial rfl ?_
                          refine HeldK.done (by kernel_rfl) ?_
                          refine AK.then_ (hK34 _ ?_)
                          refine AK.condNe rfl (fun hc6 => ?_) (fun hc6 => ?_)
                          · refine AK.seq (fun _ hK36 => ?_)
                            refine AK.region ?_
                            refine AK.val _ (Yl.assign rfl) trivial rfl ?_
                            refine AK.nil ?_
                            refine AK.then_ (hK36 _ ?_)
                            refine AK.ret ?_
                            refine AK.block_ret ?_
                            refine AK.then_ret ?_
                            refine AK.then_ret ?_
                            refine AK.block_ret ?_
                            refine AK.then_ret ?_
                            refine AK.ret1 rfl rfl (fun w hw => ⟨_, _, ?_, rfl, Ret.of (hw.pick [] (by decide) rfl rfl)⟩)
                            exfalso
                            refine hc6 ?_
                            rw [cntL_get _ _ (by omega), htk]
                            have ec : (WordsV d 40).length < 40 ∨ k < ((WordsV d 40).getD ((WordsV d 40).length - 1) []).length → (((WordsV d 40).countP (ofL k) : Nat) : Int) = CountV d k := fun h => en_count hv (n := 40) (by omega) (by omega) h
                            exact (ec (by first | exact .inl (by omega) | exact .inr (by rw [← en_last]; omega))).symm
                          · refine AK.skip ?_
                            refine AK.block_normal ?_
                            refine AK.then_ (hK32 _ ?_)
                            refine AK.region ?_
                            refine AK.val _ (Yl.add rfl rfl (by omega)) trivial rfl ?_
                            refine AK.val _ (Yl.move rfl) trivial rfl ?_
                            refine AK.nil ?_
                            refine AK.then_ (hK29 _ _ (k + 1) (by omega) (by omega) (.cons (rfl) (.cons rfl (.cons rfl (.cons rfl (.cons rfl (.nil)))))) (fun w hw => hw))
                        · have hg_20_14' := hg_20_14
                          try simp only [decide_eq_true_eq, decide_eq_false_iff_not, Bool.not_eq_true', Bool.not_eq_false', Bool.not_not, ne_eq, Decidable.not_not, Int.not_lt, Int.not_le, beq_iff_eq, bne_iff_ne, Bool.and_eq_true, Bool.or_eq_true, Bool.or_eq_false_iff, Bool.not_false, Bool.not_true, reduceCtorEq, not_true_eq_false, not_false_eq_true] at hg_20_14'
                          refine HeldK.pass 15 (fuel := 8) (listed' := #[true, true, true, true, true, true, true, true, true, true, true, true, true, true, true, true, false, false, false, false, false, false, false, false]) rfl (by kernel_rfl) rfl rfl rfl (hg_20_14) rfl ?_
                          refine HeldK.pass 16 (fuel := 7) (listed' := #[true, true, true, true, true, true, true, true, true, true, true, true, true, true, true, true, true, false, false, false, false, false, false, false]) rfl (by kernel_rfl) rfl rfl rfl (hg_20_14) rfl ?_
                          refine HeldK.pass 18 (fuel := 6) (listed' := #[true, true, true, true, true, true, true, true, true, true, true, true, true, true, true, true, true, false, true, false, false, false, false, false]) rfl (by kernel_rfl) rfl rfl rfl (hg_20_14) rfl ?_
                          refine HeldK.pass 19 (fuel := 5) (listed' := #[true, true, true, true, true, true, true, true, true, true, true, true, true, true, true, true, true, false, true, true, false, false, false, false]) rfl (by kernel_rfl) rfl rfl rfl (hg_20_14) rfl ?_
                          refine HeldK.pass 20 (fuel := 4) (listed' := #[true, true, true, true, true, true, true, true, true, true, true, true, true, true, true, true, true, false, true, true, true, false, false, false]) rfl (by kernel_rfl) rfl rfl rfl (hg_20_14) rfl ?_
                          refine HeldK.pass 21 (fuel := 3) (listed' := #[true, true, true, true, true, true, true, true, true, true, true, true, true, true, true, true, true, false, true, true, true, true, false, false]) rfl (by kernel_rfl) rfl rfl rfl (hg_20_14) rfl ?_
                          refine HeldK.one 17 (fuel := 2) (listed' := #[true, true, true, true, true, true, true, true, true, true, true, true, true, true, true, true, true, true, true, true, true, true, false, false]) (by kernel_rfl) rfl rfl ?_
                          refine AK.pass rfl rfl (hg_20_14) rfl ?_
                          refine AK.nil ?_
                          try (conv => enter [2, 2]; dsimp only [List.set_cons_zero, List.set_cons_succ, List.cons_append, List.nil_append])
                          refine HeldK.back (by repeat (first | exact HWle.nil | refine HWle.cons Ale.rfl ?_ | refine HWle.cons Ale.fst ?_)) ?_
                          refine HeldK.pass 22 (fuel := 1) (listed' := #[true, true, true, true, true, true, true, true, true, true, true, true, true, true, true, true, true, true, true, true, true, true, true, false]) rfl (by kernel_rfl) rfl rfl rfl (hg_20_14) rfl ?_
                          refine HeldK.first 23 (fuel := 0) (listed' := #[true, true, true, true, true, true, true, true, true, true, true, true, true, true, true, true, true, true, true, true, true, true, true, true]) _ rfl (by kernel_rfl) rfl rfl (Yl.pickF rfl (hg_20_14) rfl) trivial rfl ?_
                          refine HeldK.done (by kernel_rfl) ?_
                          refine AK.then_ (hK34 _ ?_)
                          refine AK.cond_f rfl (rfl) ?_
                          refine AK.skip ?_
                          refine AK.block_normal ?_
                          refine AK.then_ (hK32 _ ?_)
                          refine AK.region ?_
                          refine AK.val _ (Yl.add rfl rfl (by omega)) trivial rfl ?_
                          refine AK.val _ (Yl.move rfl) trivial rfl ?_
                          refine AK.nil ?_
                          refine AK.then_ (hK29 _ _ (k + 1) (by omega) (by omega) (.cons (rfl) (.cons rfl (.cons rfl (.cons rfl (.cons rfl (.nil)))))) (fun w hw => hw))
                    · refine AK.exit ?_
                      refine AK.then_exit ?_
                      refine AK.then_exit ?_
                      refine AK.block_exit ?_
                      refine AK.then_ (hK27 _ ?_)
                      refine AK.seq (fun _ hK37 => ?_)
                      refine AK.region ?_
                      refine AK.call co17 rfl (fun w hw => s_awake w) trivial rfl ?_
                      rintro r o ⟨rfl, rfl⟩
                      refine AK.val _ (Yl.assign rfl) trivial rfl ?_
                      refine AK.nil ?_
                      refine AK.then_ (hK37 _ ?_)
                      refine AK.ret ?_
                      refine AK.ret1 rfl rfl (fun w hw => ⟨_, _, ?_, rfl, Ret.of (hw.pick [] (by decide) rfl rfl)⟩)
                      exact ⟨rfl, rfl⟩
              · have hg_15_15' := hg_15_15
                try simp only [decide_eq_true_eq, decide_eq_false_iff_not, Bool.not_eq_true', Bool.not_eq_false', Bool.not_not, ne_eq, Decidable.not_not, Int.not_lt, Int.not_le, beq_iff_eq, bne_iff_ne, Bool.and_eq_true, Bool.or_eq_true, Bool.or_eq_false_iff, Bool.not_false, Bool.not_true, reduceCtorEq, not_true_eq_false, not_false_eq_true] at hg_15_15'
                refine AK.val _ (Yl.move rfl) ⟨_, rfl, congrArg (fun b => some (Value.bool b)) hg_15_15⟩ rfl ?_
                refine AK.val _ (Yl.move rfl) ⟨_, rfl, congrArg (fun b => some (Value.bool b)) hg_15_15⟩ rfl ?_
                refine AK.val _ (Yl.move rfl) ⟨_, rfl, congrArg (fun b => some (Value.bool b)) hg_15_15⟩ rfl ?_
                refine AK.val _ (Yl.lenR sl30 rfl (by first | exact .arg ‹_› | exact .own 0 rfl | exact .own 1 rfl | exact .own 2 rfl | exact .own 3 rfl | exact .own 4 rfl | exact .own 5 rfl | exact .own 6 rfl | exact .own 7 rfl | exact .own 8 rfl | assumption | exact .own 9 rfl | exact .own 10 rfl | exact .own 11 rfl | exact .own 12 rfl)) ⟨_, rfl, congrArg (fun b => some (Value.bool b)) hg_15_15⟩ rfl ?_
                refine AK.val _ (Yl.sub rfl rfl (by omega)) ⟨_, rfl, congrArg (fun b => some (Value.bool b)) hg_15_15⟩ rfl ?_
                first | refine AK.val _ (Yl.idxN sl30 rfl rfl (by first | exact .arg ‹_› | exact .own 0 rfl | exact .own 1 rfl | exact .own 2 rfl | exact .own 3 rfl | exact .own 4 rfl | exact .own 5 rfl | exact .own 6 rfl | exact .own 7 rfl | exact .own 8 rfl | assumption | exact .own 9 rfl | exact .own 10 rfl | exact .own 11 rfl | exact .own 12 rfl) (by decide) (by omega)) ⟨_, rfl, congrArg (fun b => some (Value.bool b)) hg_15_15⟩ rfl ?_ | refine AK.val _ (Yl.idx sl30 rfl rfl (by first | exact .arg ‹_› | exact .own 0 rfl | exact .own 1 rfl | exact .own 2 rfl | exact .own 3 rfl | exact .own 4 rfl | exact .own 5 rfl | exact .own 6 rfl | exact .own 7 rfl | exact .own 8 rfl | assumption | exact .own 9 rfl | exact .own 10 rfl | exact .own 11 rfl | exact .own 12 rfl) (by decide) (by omega)) ⟨_, rfl, congrArg (fun b => some (Value.bool b)) hg_15_15⟩ rfl ?_ | refine AK.val _ (Yl.idxK sl30 rfl rfl (by first | exact .arg ‹_› | exact .own 0 rfl | exact .own 1 rfl | exact .own 2 rfl | exact .own 3 rfl | exact .own 4 rfl | exact .own 5 rfl | exact .own 6 rfl | exact .own 7 rfl | exact .own 8 rfl | assumption | exact .own 9 rfl | exact .own 10 rfl | exact .own 11 rfl | exact .own 12 rfl) (by decide) (by omega)) ⟨_, rfl, congrArg (fun b => some (Value.bool b)) hg_15_15⟩ rfl ?_
                refine AK.val _ (Yl.loadS on9 rfl (by first | exact .arg ‹_› | exact .own 0 rfl | exact .own 1 rfl | exact .own 2 rfl | exact .own 3 rfl | exact .own 4 rfl | exact .own 5 rfl | exact .own 6 rfl | exact .own 7 rfl | exact .own 8 rfl | assumption | exact .own 9 rfl | exact .own 10 rfl | exact .own 11 rfl | exact .own 12 rfl) (by omega)) ⟨_, rfl, congrArg (fun b => some (Value.bool b)) hg_15_15⟩ rfl ?_
                refine AK.call co35 rfl (fun w hw => s_compare w _ _) ⟨_, rfl, congrArg (fun b => some (Value.bool b)) hg_15_15⟩ rfl ?_
                rintro r o ⟨rfl, rfl⟩
                refine AK.val _ (Yl.lss rfl rfl) ⟨_, rfl, congrArg (fun b => some (Value.bool b)) hg_15_15⟩ rfl ?_
                refine AK.val _ (Yl.pickF rfl (hg_15_15) rfl) ⟨_, rfl, congrArg (fun b => some (Value.bool b)) hg_15_11⟩ rfl ?_
                refine AK.val _ (Yl.pickT rfl (hg_15_11) rfl) ⟨_, rfl, congrArg (fun b => some (Value.bool b)) hg_15_3⟩ rfl ?_
                refine AK.val _ (Yl.move rfl) ⟨_, rfl, congrArg (fun b => some (Value.bool b)) hg_15_3⟩ rfl ?_
                refine AK.splitB (g := 89) rfl (fun hg_15_27 => ?_) (fun hg_15_27 => ?_)
                · have hg_15_27' := hg_15_27
                  try simp only [decide_eq_true_eq, decide_eq_false_iff_not, Bool.not_eq_true', Bool.not_eq_false', Bool.not_not, ne_eq, Decidable.not_not, Int.not_lt, Int.not_le, beq_iff_eq, bne_iff_ne, Bool.and_eq_true, Bool.or_eq_true, Bool.or_eq_false_iff, Bool.not_false, Bool.not_true, reduceCtorEq, not_true_eq_false, not_false_eq_true] at hg_15_27'
                  refine AK.val _ (Yl.move rfl) ⟨_, rfl, congrArg (fun b => some (Value.bool b)) hg_15_27⟩ rfl ?_
                  refine AK.val _ (Yl.lenS un9 rfl) ⟨_, rfl, congrArg (fun b => some (Value.bool b)) hg_15_27⟩ rfl ?_
                  refine AK.val _ (Yl.leq rfl rfl) ⟨_, rfl, congrArg (fun b => some (Value.bool b)) hg_15_27⟩ rfl ?_
                  refine AK.val _ (Yl.pickT rfl (hg_15_27) rfl) ⟨_, rfl, congrArg (fun b => some (Value.bool b)) hg_15_3⟩ rfl ?_
                  refine AK.val _ (Yl.pickF rfl (hg_15_3) rfl) trivial rfl ?_
                  refine AK.nil ?_
                  refine AK.then_ (hK24 _ ?_)
                  refine AK.condD rfl (fun hc4 => ?_) (fun hc4 => ?_)
                  · refine AK.seq (fun _ hK38 => ?_)
                    refine AK.region ?_
                    refine AK.val _ (Yl.assign rfl) trivial rfl ?_
                    refine AK.nil ?_
                    refine AK.then_ (hK38 _ ?_)
                    refine AK.ret ?_
                    refine AK.then_ret ?_
                    refine AK.ret1 rfl rfl (fun w hw => ⟨_, _, ?_, rfl, Ret.of (hw.pick [] (by decide) rfl rfl)⟩)
                    exfalso
                    first | (omega; done) | (rw [htk] at hg_15_11'; have hmi := en_miss hv hg_15_7 hg_15_11'; first | (omega; done) | exact hmi.2 (by assumption))
                  · refine AK.skip ?_
                    refine AK.then_ (hK23 _ ?_)
                    refine AK.seq (fun _ hK39 => ?_)
                    refine AK.seq (fun _ hK40 => ?_)
                    refine AK.region ?_
                    refine AK.val _ (Yl.move rfl) trivial rfl ?_
                    refine AK.val _ (Yl.lenR sl38 rfl (by first | exact .arg ‹_› | exact .own 0 rfl | exact .own 1 rfl | exact .own 2 rfl | exact .own 3 rfl | exact .own 4 rfl | exact .own 5 rfl | exact .own 6 rfl | exact .own 7 rfl | exact .own 8 rfl | assumption | exact .own 9 rfl | exact .own 10 rfl | exact .own 11 rfl | exact .own 12 rfl)) trivial rfl ?_
                    refine AK.val _ (Yl.move rfl) trivial rfl ?_
                    refine AK.nil ?_
                    refine AK.then_ (hK40 _ ?_)
                    refine AK.block ?_
                    refine AK.loopK (X := Nat) [(2, _), (5, _), (7, _), (96, _)] (fun k => [(97, .int .i64 (k : Int))]) (fun k => [box bx2 25 4 [.int .i64 d.L, .int .i64 d.s, vF, vN], row ws 9 1 (WordsV d 40).length ((WordsV d 40).map sv), row cv 3 1 9 ((cntL (WordsV d 40) (WordsV d 40).length).map (Value.int .i64))]) (fun k => k ≤ 9) (fun k => 9 - k) (0) (.cons rfl (.cons rfl (.cons rfl (.cons rfl (.nil))))) ?_ ?_ ?_ ?_
                    · exact Nat.zero_le _
                    · exact .cons (rfl) (.nil)
                    · exact fun w hw => hw
                    · intro k hg1 _ hK41
                      refine AK.seq (fun _ hK42 => ?_)
                      refine AK.region ?_
                      refine AK.val _ (Yl.lss rfl rfl) trivial rfl ?_
                      refine AK.nil ?_
                      refine AK.then_ (hK42 _ ?_)
                      refine AK.seq (fun _ hK43 => ?_)
                      refine AK.condD rfl (fun hc5 => ?_) (fun hc5 => ?_)
                      · refine AK.skip ?_
                        refine AK.then_ (hK43 _ ?_)
                        refine AK.seq (fun _ hK44 => ?_)
                        refine AK.block ?_
                        refine AK.seq (fun _ hK45 => ?_)
                        refine AK.region ?_
                        refine AK.val _ (Yl.move rfl) trivial rfl ?_
                        refine AK.val _ (Yl.assign rfl) trivial rfl ?_
                        refine AK.nil ?_
                        refine AK.then_ (hK45 _ ?_)
                        refine AK.seq (fun _ hK46 => ?_)
                        try (conv => enter [2, 2]; dsimp only [List.set_cons_zero, List.set_cons_succ, List.cons_append, List.nil_append])
                        refine AK.held 24 mixed ?_
                        refine HeldK.first 0 (fuel := 23) (listed' := #[true, false, false, false, false, false, false, false, false, false, false, false, false, false, false, false, false, false, false, false, false, false, false, false]) _ rfl (by kernel_rfl) rfl rfl (Yl.move rfl) trivial rfl ?_
                        refine HeldK.first 1 (fuel := 22) (listed' := #[true, true, false, false, false, false, false, false, false, false, false, false, false, false, false, false, false, false, false, false, false, false, false, false]) _ rfl (by kernel_rfl) rfl rfl (Yl.lenR sl30 rfl (by first | exact .arg ‹_› | exact .own 0 rfl | exact .own 1 rfl | exact .own 2 rfl | exact .own 3 rfl | exact .own 4 rfl | exact .own 5 rfl | exact .own 6 rfl | exact .own 7 rfl | exact .own 8 rfl | assumption | exact .own 9 rfl | exact .own 10 rfl | exact .own 11 rfl | exact .own 12 rfl)) trivial rfl ?_
                        refine HeldK.first 2 (fuel := 21) (listed' := #[true, true, true, false, false, false, false, false, false, false, false, false, false, false, false, false, false, false, false, false, false, false, false, false]) _ rfl (by kernel_rfl) rfl rfl (Yl.lss rfl rfl) trivial rfl ?_
                        refine HeldK.first 3 (fuel := 20) (listed' := #[true, true, true, true, false, false, false, false, false, false, false, false, false, false, false, false, false, false, false, false, false, false, false, false]) _ rfl (by kernel_rfl) rfl rfl (Yl.move rfl) trivial rfl ?_
                        refine AK.splitB (g := 103) rfl (fun hg_20_3 => ?_) (fun hg_20_3 => ?_)
                        · have hg_20_3' := hg_20_3
                          try simp only [decide_eq_true_eq, decide_eq_false_iff_not, Bool.not_eq_true', Bool.not_eq_false', Bool.not_not, ne_eq, Decidable.not_not, Int.not_lt, Int.not_le, beq_iff_eq, bne_iff_ne, Bool.and_eq_true, Bool.or_eq_true, Bool.or_eq_false_iff, Bool.not_false, Bool.not_true, reduceCtorEq, not_true_eq_false, not_false_eq_true] at hg_20_3'
                          refine HeldK.pass 4 (fuel := 19) (listed' := #[true, true, true, true, true, false, false, false, false, false, false, false, false, false, false, false, false, false, false, false, false, false, false, false]) rfl (by kernel_rfl) rfl rfl rfl (hg_20_3) rfl ?_
                          refine HeldK.pass 5 (fuel := 18) (listed' := #[true, true, true, true, true, true, false, false, false, false, false, false, false, false, false, false, false, false, false, false, false, false, false, false]) rfl (by kernel_rfl) rfl rfl rfl (hg_20_3) rfl ?_
                          refine HeldK.pass 6 (fuel := 17) (listed' := #[true, true, true, true, true, true, true, false, false, false, false, false, false, false, false, false, false, false, false, false, false, false, false, false]) rfl (by kernel_rfl) rfl rfl rfl (hg_20_3) rfl ?_
                          refine HeldK.pass 7 (fuel := 16) (listed' := #[true, true, true, true, true, true, true, true, false, false, false, false, false, false, false, false, false, false, false, false, false, false, false, false]) rfl (by kernel_rfl) rfl rfl rfl (hg_20_3) rfl ?_
                          refine HeldK.pass 8 (fuel := 15) (listed' := #[true, true, true, true, true, true, true, true, true, false, false, false, false, false, false, false, false, false, false, false, false, false, false, false]) rfl (by kernel_rfl) rfl rfl rfl (hg_20_3) rfl ?_
                          refine HeldK.pass 9 (fuel := 14) (listed' := #[true, true, true, true, true, true, true, true, true, true, false, false, false, false, false, false, false, false, false, false, false, false, false, false]) rfl (by kernel_rfl) rfl rfl rfl (hg_20_3) rfl ?_
                          refine HeldK.pass 10 (fuel := 13) (listed' := #[true, true, true, true, true, true, true, true, true, true, true, false, false, false, false, false, false, false, false, false, false, false, false, false]) rfl (by kernel_rfl) rfl rfl rfl (hg_20_3) rfl ?_
                          refine HeldK.pass 11 (fuel := 12) (listed' := #[true, true, true, true, true, true, true, true, true, true, true, true, false, false, false, false, false, false, false, false, false, false, false, false]) rfl (by kernel_rfl) rfl rfl rfl (hg_20_3) rfl ?_
                          refine HeldK.pass 12 (fuel := 11) (listed' := #[true, true, true, true, true, true, true, true, true, true, true, true, true, false, false, false, false, false, false, false, false, false, false, false]) rfl (by kernel_rfl) rfl rfl rfl (hg_20_3) rfl ?_
                          refine HeldK.first 13 (fuel := 10) (listed' := #[true, true, true, true, true, true, true, true, true, true, true, true, true, true, false, false, false, false, false, false, false, false, false, false]) _ rfl (by kernel_rfl) rfl rfl (Yl.pickT rfl (hg_20_3) rfl) trivial rfl ?_
                          refine HeldK.first 14 (fuel := 9) (listed' := #[true, true, true, true, true, true, true, true, true, true, true, true, true, true, true, false, false, false, false, false, false, false, false, false]) _ rfl (by kernel_rfl) rfl rfl (Yl.move rfl) trivial rfl ?_
                          refine HeldK.first 15 (fuel := 8) (listed' := #[true, true, true, true, true, true, true, true, true, true, true, true, true, true, true, true, false, false, false, false, false, false, false, false]) _ rfl (by kernel_rfl) rfl rfl (Yl.loadBoxG ag25 rfl (by first | exact .own 0 rfl | exact .own 1 rfl | exact .own 2 rfl | exact .own 3 rfl | exact .own 4 rfl | exact .own 5 rfl | exact .own 6 rfl | exact .own 7 rfl | exact .own 8 rfl | exact .own 9 rfl | exact .own 10 rfl | exact .own 11 rfl | exact .own 12 rfl | assumption | exact BoxS.arg (by assumption)) rfl rfl) ⟨_, rfl, rfl⟩ rfl ?_
                          refine HeldK.first 16 (fuel := 7) (listed' := #[true, true, true, true, true, true, true, true, true, true, true, true, true, true, true, true, true, false, false, false, false, false, false, false]) _ rfl (by kernel_rfl) rfl rfl (Yl.move rfl) ⟨_, rfl, rfl⟩ rfl ?_
                          refine HeldK.first 18 (fuel := 6) (listed' := #[true, true, true, true, true, true, true, true, true, true, true, true, true, true, true, true, true, false, true, false, false, false, false, false]) _ rfl (by kernel_rfl) rfl rfl (Yl.move rfl) ⟨_, rfl, rfl⟩ rfl ?_
                          refine HeldK.first 19 (fuel := 5) (listed' := #[true, true, true, true, true, true, true, true, true, true, true, true, true, true, true, true, true, false, true, true, false, false, false, false]) _ rfl (by kernel_rfl) rfl rfl (Yl.move rfl) ⟨_, rfl, rfl⟩ rfl ?_
                          first | refine HeldK.first 20 (fuel := 4) (listed' := #[true, true, true, true, true, true, true, true, true, true, true, true, true, true, true, true, true, false, true, true, true, false, false, false]) _ rfl (by kernel_rfl) rfl rfl (Yl.idxN sl38 rfl rfl (by first | exact .arg ‹_› | exact .own 0 rfl | exact .own 1 rfl | exact .own 2 rfl | exact .own 3 rfl | exact .own 4 rfl | exact .own 5 rfl | exact .own 6 rfl | exact .own 7 rfl | exact .own 8 rfl | assumption | exact .own 9 rfl | exact .own 10 rfl | exact .own 11 rfl | exact .own 12 rfl) (by decide) (by omega)) ⟨_, rfl, rfl⟩ rfl ?_ | refine HeldK.first 20 (fuel := 4) (listed' := #[true, true, true, true, true, true, true, true, true, true, true, true, true, true, true, true, true, false, true, true, true, false, false, false]) _ rfl (by kernel_rfl) rfl rfl (Yl.idx sl38 rfl rfl (by first | exact .arg ‹_› | exact .own 0 rfl | exact .own 1 rfl | exact .own 2 rfl | exact .own 3 rfl | exact .own 4 rfl | exact .own 5 rfl | exact .own 6 rfl | exact .own 7 rfl | exact .own 8 rfl | assumption | exact .own 9 rfl | exact .own 10 rfl | exact .own 11 rfl | exact .own 12 rfl) (by decide) (by omega)) ⟨_, rfl, rfl⟩ rfl ?_ | refine HeldK.first 20 (fuel := 4) (listed' := #[true, true, true, true, true, true, true, true, true, true, true, true, true, true, true, true, true, false, true, true, true, false, false, false]) _ rfl (by kernel_rfl) rfl rfl (Yl.idxK sl38 rfl rfl (by first | exact .arg ‹_› | exact .own 0 rfl | exact .own 1 rfl | exact .own 2 rfl | exact .own 3 rfl | exact .own 4 rfl | exact .own 5 rfl | exact .own 6 rfl | exact .own 7 rfl | exact .own 8 rfl | assumption | exact .own 9 rfl | exact .own 10 rfl | exact .own 11 rfl | exact .own 12 rfl) (by decide) (by omega)) ⟨_, rfl, rfl⟩ rfl ?_
                          refine HeldK.first 21 (fuel := 3) (listed' := #[true, true, true, true, true, true, true, true, true, true, true, true, true, true, true, true, true, false, true, true, true, true, false, false]) _ rfl (by kernel_rfl) rfl rfl (Yl.loadI on3 rfl (by first | exact .arg ‹_› | exact .own 0 rfl | exact .own 1 rfl | exact .own 2 rfl | exact .own 3 rfl | exact .own 4 rfl | exact .own 5 rfl | exact .own 6 rfl | exact .own 7 rfl | exact .own 8 rfl | assumption | exact .own 9 rfl | exact .own 10 rfl | exact .own 11 rfl | exact .own 12 rfl) (by omega)) ⟨_, rfl, rfl⟩ rfl ?_
                          refine HeldK.one 17 (fuel := 2) (listed' := #[true, true, true, true, true, true, true, true, true, true, true, true, true, true, true, true, true, true, true, true, true, true, false, false]) (by kernel_rfl) rfl rfl ?_
                          refine AK.call co22 rfl (fun w hw => s_count w _ d (h0.at hw) (k : Int)) ⟨_, rfl, rfl⟩ rfl ?_
                          rintro r o ⟨rfl, rfl⟩
                          refine AK.nil ?_
                          try (conv => enter [2, 2]; dsimp only [List.set_cons_zero, List.set_cons_succ, List.cons_append, List.nil_append])
                          refine HeldK.back (by repeat (first | exact HWle.nil | refine HWle.cons Ale.rfl ?_ | refine HWle.cons Ale.fst ?_)) ?_
                          refine HeldK.first 22 (fuel := 1) (listed' := #[true, true, true, true, true, true, true, true, true, true, true, true, true, true, true, true, true, true, true, true, true, true, true, false]) _ rfl (by kernel_rfl) rfl rfl (Yl.neq rfl rfl) ⟨_, rfl, rfl⟩ rfl ?_
                          refine HeldK.first 23 (fuel := 0) (listed' := #[true, true, true, true, true, true, true, true, true, true, true, true, true, true, true, true, true, true, true, true, true, true, true, true]) _ rfl (by kernel_rfl) rfl rfl (Yl.pickT rfl (rfl) rfl) trivial rfl ?_
                          refine HeldK.done (by kernel_rfl) ?_
                          refine AK.then_ (hK46 _ ?_)
                          refine AK.condNe rfl (fun hc6 => ?_) (fun hc6 => ?_)
                          · refine AK.seq (fun _ hK47 => ?_)
                            refine AK.region ?_
                            refine AK.val _ (Yl.assign rfl) trivial rfl ?_
                            refine AK.nil ?_
                            refine AK.then_ (hK47 _ ?_)
                            refine AK.ret ?_
                            refine AK.block_ret ?_
                            refine AK.then_ret ?_
                            refine AK.then_ret ?_
                            refine AK.block_ret ?_
                            refine AK.then_ret ?_
                            refine AK.ret1 rfl rfl (fun w hw => ⟨_, _, ?_, rfl, Ret.of (hw.pick [] (by decide) rfl rfl)⟩)
                            exfalso
                            refine hc6 ?_
                            rw [cntL_get _ _ (by omega), htk]
                            have ec : (WordsV d 40).length < 40 ∨ k < ((WordsV d 40).getD ((WordsV d 40).length - 1) []).length → (((WordsV d 40).countP (ofL k) : Nat) : Int) = CountV d k := fun h => en_count hv (n := 40) (by omega) (by omega) h
                            exact (ec (by first | exact .inl (by omega) | exact .inr (by rw [← en_last]; omega))).symm
                          · refine AK.skip ?_
                            refine AK.block_normal ?_
                            refine AK.then_ (hK44 _ ?_)
                            refine AK.region ?_
                            refine AK.val _ (Yl.add rfl rfl (by omega)) trivial rfl ?_
                            refine AK.val _ (Yl.move rfl) trivial rfl ?_
                            refine AK.nil ?_
                            refine AK.then_ (hK41 _ _ (k + 1) (by omega) (by omega) (.cons (rfl) (.cons rfl (.cons rfl (.cons rfl (.cons rfl (.nil)))))) (fun w hw => hw))
                        · have hg_20_3' := hg_20_3
                          try simp only [decide_eq_true_eq, decide_eq_false_iff_not, Bool.not_eq_true', Bool.not_eq_false', Bool.not_not, ne_eq, Decidable.not_not, Int.not_lt, Int.not_le, beq_iff_eq, bne_iff_ne, Bool.and_eq_true, Bool.or_eq_true, Bool.or_eq_false_iff, Bool.not_false, Bool.not_true, reduceCtorEq, not_true_eq_false, not_false_eq_true] at hg_20_3'
                          refine HeldK.first 4 (fuel := 19) (listed' := #[true, true, true, true, true, false, false, false, false, false, false, false, false, false, false, false, false, false, false, false, false, false, false, false]) _ rfl (by kernel_rfl) rfl rfl (Yl.move rfl) ⟨_, rfl, congrArg (fun b => some (Value.bool b)) hg_20_3⟩ rfl ?_
                          refine HeldK.first 5 (fuel := 18) (listed' := #[true, true, true, true, true, true, false, false, false, false, false, false, false, false, false, false, false, false, false, false, false, false, false, false]) _ rfl (by kernel_rfl) rfl rfl (Yl.move rfl) ⟨_, rfl, congrArg (fun b => some (Value.bool b)) hg_20_3⟩ rfl ?_
                          refine HeldK.first 6 (fuel := 17) (listed' := #[true, true, true, true, true, true, true, false, false, false, false, false, false, false, false, false, false, false, false, false, false, false, false, false]) _ rfl (by kernel_rfl) rfl rfl (Yl.lenR sl30 rfl (by first | exact .arg ‹_› | exact .own 0 rfl | exact .own 1 rfl | exact .own 2 rfl | exact .own 3 rfl | exact .own 4 rfl | exact .own 5 rfl | exact .own 6 rfl | exact .own 7 rfl | exact .own 8 rfl | assumption | exact .own 9 rfl | exact .own 10 rfl | exact .own 11 rfl | exact .own 12 rfl)) ⟨_, rfl, congrArg (fun b => some (Value.bool b)) hg_20_3⟩ rfl ?_
                          refine HeldK.first 7 (fuel := 16) (listed' := #[true, true, true, true, true, true, true, true, false, false, false, false, false, false, false, false, false, false, false, false, false, false, false, false]) _ rfl (by kernel_rfl) rfl rfl (Yl.sub rfl rfl (by omega)) ⟨_, rfl, congrArg (fun b => some (Value.bool b)) hg_20_3⟩ rfl ?_
                          first | refine HeldK.first 8 (fuel := 15) (listed' := #[true, true, true, true, true, true, true, true, true, false, false, false, false, false, false, false, false, false, false, false, false, false, false, false]) _ rfl (by kernel_rfl) rfl rfl (Yl.idxN sl30 rfl rfl (by first | exact .arg ‹_› | exact .own 0 rfl | exact .own 1 rfl | exact .own 2 rfl | exact .own 3 rfl | exact .own 4 rfl | exact .own 5 rfl | exact .own 6 rfl | exact .own 7 rfl | exact .own 8 rfl | assumption | exact .own 9 rfl | exact .own 10 rfl | exact .own 11 rfl | exact .own 12 rfl) (by decide) (by omega)) ⟨_, rfl, congrArg (fun b => some (Value.bool b)) hg_20_3⟩ rfl ?_ | refine HeldK.first 8 (fuel := 15) (listed' := #[true, true, true, true, true, true, true, true, true, false, false, false, false, false, false, false, false, false, false, false, false, false, false, false]) _ rfl (by kernel_rfl) rfl rfl (Yl.idx sl30 rfl rfl (by first | exact .arg ‹_› | exact .own 0 rfl | exact .own 1 rfl | exact .own 2 rfl | exact .own 3 rfl | exact .own 4 rfl | exact .own 5 rfl | exact .own 6 rfl | exact .own 7 rfl | exact .own 8 rfl | assumption | exact .own 9 rfl | exact .own 10 rfl | exact .own 11 rfl | exact .own 12 rfl) (by decide) (by omega)) ⟨_, rfl, congrArg (fun b => some (Value.bool b)) hg_20_3⟩ rfl ?_ | refine HeldK.first 8 (fuel := 15) (listed' := #[true, true, true, true, true, true, true, true, true, false, false, false, false, false, false, false, false, false, false, false, false, false, false, false]) _ rfl (by kernel_rfl) rfl rfl (Yl.idxK sl30 rfl rfl (by first | exact .arg ‹_› | exact .own 0 rfl | exact .own 1 rfl | exact .own 2 rfl | exact .own 3 rfl | exact .own 4 rfl | exact .own 5 rfl | exact .own 6 rfl | exact .own 7 rfl | exact .own 8 rfl | assumption | exact .own 9 rfl | exact .own 10 rfl | exact .own 11 rfl | exact .own 12 rfl) (by decide) (by omega)) ⟨_, rfl, congrArg (fun b => some (Value.bool b)) hg_20_3⟩ rfl ?_
                          refine HeldK.first 9 (fuel := 14) (listed' := #[true, true, true, true, true, true, true, true, true, true, false, false, false, false, false, false, false, false, false, false, false, false, false, false]) _ rfl (by kernel_rfl) rfl rfl (Yl.loadS on9 rfl (by first | exact .arg ‹_› | exact .own 0 rfl | exact .own 1 rfl | exact .own 2 rfl | exact .own 3 rfl | exact .own 4 rfl | exact .own 5 rfl | exact .own 6 rfl | exact .own 7 rfl | exact .own 8 rfl | assumption | exact .own 9 rfl | exact .own 10 rfl | exact .own 11 rfl | exact .own 12 rfl) (by omega)) ⟨_, rfl, congrArg (fun b => some (Value.bool b)) hg_20_3⟩ rfl ?_
                          refine HeldK.first 10 (fuel := 13) (listed' := #[true, true, true, true, true, true, true, true, true, true, true, false, false, false, false, false, false, false, false, false, false, false, false, false]) _ rfl (by kernel_rfl) rfl rfl (Yl.lenS un9 rfl) ⟨_, rfl, congrArg (fun b => some (Value.bool b)) hg_20_3⟩ rfl ?_
                          refine HeldK.first 11 (fuel := 12) (listed' := #[true, true, true, true, true, true, true, true, true, true, true, true, false, false, false, false, false, false, false, false, false, false, false, false]) _ rfl (by kernel_rfl) rfl rfl (Yl.move rfl) ⟨_, rfl, congrArg (fun b => some (Value.bool b)) hg_20_3⟩ rfl ?_
                          refine HeldK.first 12 (fuel := 11) (listed' := #[true, true, true, true, true, true, true, true, true, true, true, true, true, false, false, false, false, false, false, false, false, false, false, false]) _ rfl (by kernel_rfl) rfl rfl (Yl.gtr rfl rfl) ⟨_, rfl, congrArg (fun b => some (Value.bool b)) hg_20_3⟩ rfl ?_
                          refine HeldK.first 13 (fuel := 10) (listed' := #[true, true, true, true, true, true, true, true, true, true, true, true, true, true, false, false, false, false, false, false, false, false, false, false]) _ rfl (by kernel_rfl) rfl rfl (Yl.pickF rfl (hg_20_3) rfl) trivial rfl ?_
                          refine HeldK.first 14 (fuel := 9) (listed' := #[true, true, true, true, true, true, true, true, true, true, true, true, true, true, true, false, false, false, false, false, false, false, false, false]) _ rfl (by kernel_rfl) rfl rfl (Yl.move rfl) trivial rfl ?_
                          refine AK.splitB (g := 114) rfl (fun hg_20_14 => ?_) (fun hg_20_14 => ?_)
                          · have hg_20_14' := hg_20_14
                            try simp only [decide_eq_true_eq, decide_eq_false_iff_not, Bool.not_eq_true', Bool.not_eq_false', Bool.not_not, ne_eq, Decidable.not_not, Int.not_lt, Int.not_le, beq_iff_eq, bne_iff_ne, Bool.and_eq_true, Bool.or_eq_true, Bool.or_eq_false_iff, Bool.not_false, Bool.not_true, reduceCtorEq, not_true_eq_false, not_false_eq_true] at hg_20_14'
                            refine HeldK.first 15 (fuel := 8) (listed' := #[true, true, true, true, true, true, true, true, true, true, true, true, true, true, true, true, false, false, false, false, false, false, false, false]) _ rfl (by kernel_rfl) rfl rfl (Yl.loadBoxG ag25 rfl (by first | exact .own 0 rfl | exact .own 1 rfl | exact .own 2 rfl | exact .own 3 rfl | exact .own 4 rfl | exact .own 5 rfl | exact .own 6 rfl | exact .own 7 rfl | exact .own 8 rfl | exact .own 9 rfl | exact .own 10 rfl | exact .own 11 rfl | exact .own 12 rfl | assumption | exact BoxS.arg (by assumption)) rfl rfl) ⟨_, rfl, congrArg (fun b => some (Value.bool b)) hg_20_14⟩ rfl ?_
                            refine HeldK.first 16 (fuel := 7) (listed' := #[true, true, true, true, true, true, true, true, true, true, true, true, true, true, true, true, true, false, false, false, false, false, false, false]) _ rfl (by kernel_rfl) rfl rfl (Yl.move rfl) ⟨_, rfl, congrArg (fun b => some (Value.bool b)) hg_20_14⟩ rfl ?_
                            refine HeldK.first 18 (fuel := 6) (listed' := #[true, true, true, true, true, true, true, true, true, true, true, true, true, true, true, true, true, false, true, false, false, false, false, false]) _ rfl (by kernel_rfl) rfl rfl (Yl.move rfl) ⟨_, rfl, congrArg (fun b => some (Value.bool b)) hg_20_14⟩ rfl ?_
                            refine HeldK.first 19 (fuel := 5) (listed' := #[true, true, true, true, true, true, true, true, true, true, true, true, true, true, true, true, true, false, true, true, false, false, false, false]) _ rfl (by kernel_rfl) rfl rfl (Yl.move rfl) ⟨_, rfl, congrArg (fun b => some (Value.bool b)) hg_20_14⟩ rfl ?_
                            first | refine HeldK.first 20 (fuel := 4) (listed' := #[true, true, true, true, true, true, true, true, true, true, true, true, true, true, true, true, true, false, true, true, true, false, false, false]) _ rfl (by kernel_rfl) rfl rfl (Yl.idxN sl38 rfl rfl (by first | exact .arg ‹_› | exact .own 0 rfl | exact .own 1 rfl | exact .own 2 rfl | exact .own 3 rfl | exact .own 4 rfl | exact .own 5 rfl | exact .own 6 rfl | exact .own 7 rfl | exact .own 8 rfl | assumption | exact .own 9 rfl | exact .own 10 rfl | exact .own 11 rfl | exact .own 12 rfl) (by decide) (by omega)) ⟨_, rfl, congrArg (fun b => some (Value.bool b)) hg_20_14⟩ rfl ?_ | refine HeldK.first 20 (fuel := 4) (listed' := #[true, true, true, true, true, true, true, true, true, true, true, true, true, true, true, true, true, false, true, true, true, false, false, false]) _ rfl (by kernel_rfl) rfl rfl (Yl.idx sl38 rfl rfl (by first | exact .arg ‹_› | exact .own 0 rfl | exact .own 1 rfl | exact .own 2 rfl | exact .own 3 rfl | exact .own 4 rfl | exact .own 5 rfl | exact .own 6 rfl | exact .own 7 rfl | exact .own 8 rfl | assumption | exact .own 9 rfl | exact .own 10 rfl | exact .own 11 rfl | exact .own 12 rfl) (by decide) (by omega)) ⟨_, rfl, congrArg (fun b => some (Value.bool b)) hg_20_14⟩ rfl ?_ | refine HeldK.first 20 (fuel := 4) (listed' := #[true, true, true, true, true, true, true, true, true, true, true, true, true, true, true, true, true, false, true, true, true, false, false, false]) _ rfl (by kernel_rfl) rfl rfl (Yl.idxK sl38 rfl rfl (by first | exact .arg ‹_› | exact .own 0 rfl | exact .own 1 rfl | exact .own 2 rfl | exact .own 3 rfl | exact .own 4 rfl | exact .own 5 rfl | exact .own 6 rfl | exact .own 7 rfl | exact .own 8 rfl | assumption | exact .own 9 rfl | exact .own 10 rfl | exact .own 11 rfl | exact .own 12 rfl) (by decide) (by omega)) ⟨_, rfl, congrArg (fun b => some (Value.bool b)) hg_20_14⟩ rfl ?_
                            refine HeldK.first 21 (fuel := 3) (listed' := #[true, true, true, true, true, true, true, true, true, true, true, true, true, true, true, true, true, false, true, true, true, true, false, false]) _ rfl (by kernel_rfl) rfl rfl (Yl.loadI on3 rfl (by first | exact .arg ‹_› | exact .own 0 rfl | exact .own 1 rfl | exact .own 2 rfl | exact .own 3 rfl | exact .own 4 rfl | exact .own 5 rfl | exact .own 6 rfl | exact .own 7 rfl | exact .own 8 rfl | assumption | exact .own 9 rfl | exact .own 10 rfl | exact .own 11 rfl | exact .own 12 rfl) (by omega)) ⟨_, rfl, congrArg (fun b => some (Value.bool b)) hg_20_14⟩ rfl ?_
                            refine HeldK.one 17 (fuel := 2) (listed' := #[true, true, true, true, true, true, true, true, true, true, true, true, true, true, true, true, true, true, true, true, true, true, false, false]) (by kernel_rfl) rfl rfl ?_
                            refine AK.call co22 rfl (fun w hw => s_count w _ d (h0.at hw) (k : Int)) ⟨_, rfl, congrArg (fun b => some (Value.bool b)) hg_20_14⟩ rfl ?_
                            rintro r o ⟨rfl, rfl⟩
                            refine AK.nil ?_
                            try (conv => enter [2, 2]; dsimp only [List.set_cons_zero, List.set_cons_succ, List.cons_append, List.nil_append])
                            refine HeldK.back (by repeat (first | exact HWle.nil | refine HWle.cons Ale.rfl ?_ | refine HWle.cons Ale.fst ?_)) ?_
                            refine HeldK.first 22 (fuel := 1) (listed' := #[true, true, true, true, true, true, true, true, true, true, true, true, true, true, true, true, true, true, true, true, true, true, true, false]) _ rfl (by kernel_rfl) rfl rfl (Yl.neq rfl rfl) ⟨_, rfl, congrArg (fun b => some (Value.bool b)) hg_20_14⟩ rfl ?_
                            refine HeldK.first 23 (fuel := 0) (listed' := #[true, true, true, true, true, true, true, true, true, true, true, true, true, true, true, true, true, true, true, true, true, true, true, true]) _ rfl (by kernel_rfl) rfl rfl (Yl.pickT rfl (hg_20_14) rfl) trivial rfl ?_
                            refine HeldK.done (by kernel_rfl) ?_
                            refine AK.then_ (hK46 _ ?_)
                            refine AK.condNe rfl (fun hc6 => ?_) (fun hc6 => ?_)
                            · refine AK.seq (fun _ hK48 => ?_)
                              refine AK.region ?_
                              refine AK.val _ (Yl.assign rfl) trivial rfl ?_
                              refine AK.nil ?_
                              refine AK.then_ (hK48 _ ?_)
                              refine AK.ret ?_
                              refine AK.block_ret ?_
                              refine AK.then_ret ?_
                              refine AK.then_ret ?_
                              refine AK.block_ret ?_
                              refine AK.then_ret ?_
                              refine AK.ret1 rfl rfl (fun w hw => ⟨_, _, ?_, rfl, Ret.of (hw.pick [] (by decide) rfl rfl)⟩)
                              exfalso
                              refine hc6 ?_
                              rw [cntL_get _ _ (by omega), htk]
                              have ec : (WordsV d 40).length < 40 ∨ k < ((WordsV d 40).getD ((WordsV d 40).length - 1) []).length → (((WordsV d 40).countP (ofL k) : Nat) : Int) = CountV d k := fun h => en_count hv (n := 40) (by omega) (by omega) h
                              exact (ec (by first | exact .inl (by omega) | exact .inr (by rw [← en_last]; omega))).symm
                            · refine AK.skip ?_
                              refine AK.block_normal ?_
                              refine AK.then_ (hK44 _ ?_)
                              refine AK.region ?_
                              refine AK.val _ (Yl.add rfl rfl (by omega)) trivial rfl ?_
                              refine AK.val _ (Yl.move rfl) trivial rfl ?_
                              refine AK.nil ?_
                              refine AK.then_ (hK41 _ _ (k + 1) (by omega) (by omega) (.cons (rfl) (.cons rfl (.cons rfl (.cons rfl (.cons rfl (.nil)))))) (fun w hw => hw))
                          · have hg_20_14' := hg_20_14
                            try simp only [decide_eq_true_eq, decide_eq_false_iff_not, Bool.not_eq_true', Bool.not_eq_false', Bool.not_not, ne_eq, Decidable.not_not, Int.not_lt, Int.not_le, beq_iff_eq, bne_iff_ne, Bool.and_eq_true, Bool.or_eq_true, Bool.or_eq_false_iff, Bool.not_false, Bool.not_true, reduceCtorEq, not_true_eq_false, not_false_eq_true] at hg_20_14'
                            refine HeldK.pass 15 (fuel := 8) (listed' := #[true, true, true, true, true, true, true, true, true, true, true, true, true, true, true, true, false, false, false, false, false, false, false, false]) rfl (by kernel_rfl) rfl rfl rfl (hg_20_14) rfl ?_
                            refine HeldK.pass 16 (fuel := 7) (listed' := #[true, true, true, true, true, true, true, true, true, true, true, true, true, true, true, true, true, false, false, false, false, false, false, false]) rfl (by kernel_rfl) rfl rfl rfl (hg_20_14) rfl ?_
                            refine HeldK.pass 18 (fuel := 6) (listed' := #[true, true, true, true, true, true, true, true, true, true, true, true, true, true, true, true, true, false, true, false, false, false, false, false]) rfl (by kernel_rfl) rfl rfl rfl (hg_20_14) rfl ?_
                            refine HeldK.pass 19 (fuel := 5) (listed' := #[true, true, true, true, true, true, true, true, true, true, true, true, true, true, true, true, true, false, true, true, false, false, false, false]) rfl (by kernel_rfl) rfl rfl rfl (hg_20_14) rfl ?_
                            refine HeldK.pass 20 (fuel := 4) (listed' := #[true, true, true, true, true, true, true, true, true, true, true, true, true, true, true, true, true, false, true, true, true, false, false, false]) rfl (by kernel_rfl) rfl rfl rfl (hg_20_14) rfl ?_
                            refine HeldK.pass 21 (fuel := 3) (listed' := #[true, true, true, true, true, true, true, true, true, true, true, true, true, true, true, true, true, false, true, true, true, true, false, false]) rfl (by kernel_rfl) rfl rfl rfl (hg_20_14) rfl ?_
                            refine HeldK.one 17 (fuel := 2) (listed' := #[true, true, true, true, true, true, true, true, true, true, true, true, true, true, true, true, true, true, true, true, true, true, false, false]) (by kernel_rfl) rfl rfl ?_
                            refine AK.pass rfl rfl (hg_20_14) rfl ?_
                            refine AK.nil ?_
                            try (conv => enter [2, 2]; dsimp only [List.set_cons_zero, List.set_cons_succ, List.cons_append, List.nil_append])
                            refine HeldK.back (by repeat (first | exact HWle.nil | refine HWle.cons Ale.rfl ?_ | refine HWle.cons Ale.fst ?_)) ?_
                            refine HeldK.pass 22 (fuel := 1) (listed' := #[true, true, true, true, true, true, true, true, true, true, true, true, true, true, true, true, true, true, true, true, true, true, true, false]) rfl (by kernel_rfl) rfl rfl rfl (hg_20_14) rfl ?_
                            refine HeldK.first 23 (fuel := 0) (listed' := #[true, true, true, true, true, true, true, true, true, true, true, true, true, true, true, true, true, true, true, true, true, true, true, true]) _ rfl (by kernel_rfl) rfl rfl (Yl.pickF rfl (hg_20_14) rfl) trivial rfl ?_
                            refine HeldK.done (by kernel_rfl) ?_
                            refine AK.then_ (hK46 _ ?_)
                            refine AK.cond_f rfl (rfl) ?_
                            refine AK.skip ?_
                            refine AK.block_normal ?_
                            refine AK.then_ (hK44 _ ?_)
                            refine AK.region ?_
                            refine AK.val _ (Yl.add rfl rfl (by omega)) trivial rfl ?_
                            refine AK.val _ (Yl.move rfl) trivial rfl ?_
                            refine AK.nil ?_
                            refine AK.then_ (hK41 _ _ (k + 1) (by omega) (by omega) (.cons (rfl) (.cons rfl (.cons rfl (.cons rfl (.cons rfl (.nil)))))) (fun w hw => hw))
                      · refine AK.exit ?_
                        refine AK.then_exit ?_
                        refine AK.then_exit ?_
                        refine AK.block_exit ?_
                        refine AK.then_ (hK39 _ ?_)
                        refine AK.seq (fun _ hK49 => ?_)
                        refine AK.region ?_
                        refine AK.call co17 rfl (fun w hw => s_awake w) trivial rfl ?_
                        rintro r o ⟨rfl, rfl⟩
                        refine AK.val _ (Yl.assign rfl) trivial rfl ?_
                        refine AK.nil ?_
                        refine AK.then_ (hK49 _ ?_)
                        refine AK.ret ?_
                        refine AK.ret1 rfl rfl (fun w hw => ⟨_, _, ?_, rfl, Ret.of (hw.pick [] (by decide) rfl rfl)⟩)
                        exact ⟨rfl, rfl⟩
                · have hg_15_27' := hg_15_27
                  try simp only [decide_eq_true_eq, decide_eq_false_iff_not, Bool.not_eq_true', Bool.not_eq_false', Bool.not_not, ne_eq, Decidable.not_not, Int.not_lt, Int.not_le, beq_iff_eq, bne_iff_ne, Bool.and_eq_true, Bool.or_eq_true, Bool.or_eq_false_iff, Bool.not_false, Bool.not_true, reduceCtorEq, not_true_eq_false, not_false_eq_true] at hg_15_27'
                  refine AK.pass rfl rfl (hg_15_27) rfl ?_
                  refine AK.pass rfl rfl (hg_15_27) rfl ?_
                  refine AK.pass rfl rfl (hg_15_27) rfl ?_
                  refine AK.val _ (Yl.pickF rfl (hg_15_27) rfl) ⟨_, rfl, congrArg (fun b => some (Value.bool b)) hg_15_3⟩ rfl ?_
                  refine AK.val _ (Yl.pickF rfl (hg_15_3) rfl) trivial rfl ?_
                  refine AK.nil ?_
                  refine AK.then_ (hK24 _ ?_)
                  refine AK.cond_f rfl (rfl) ?_
                  refine AK.skip ?_
                  refine AK.then_ (hK23 _ ?_)
                  refine AK.seq (fun _ hK50 => ?_)
                  refine AK.seq (fun _ hK51 => ?_)
                  refine AK.region ?_
                  refine AK.val _ (Yl.move rfl) trivial rfl ?_
                  refine AK.val _ (Yl.lenR sl38 rfl (by first | exact .arg ‹_› | exact .own 0 rfl | exact .own 1 rfl | exact .own 2 rfl | exact .own 3 rfl | exact .own 4 rfl | exact .own 5 rfl | exact .own 6 rfl | exact .own 7 rfl | exact .own 8 rfl | assumption | exact .own 9 rfl | exact .own 10 rfl | exact .own 11 rfl | exact .own 12 rfl)) trivial rfl ?_
                  refine AK.val _ (Yl.move rfl) trivial rfl ?_
                  refine AK.nil ?_
                  refine AK.then_ (hK51 _ ?_)
                  refine AK.block ?_
                  refine AK.loopK (X := Nat) [(2, _), (5, _), (7, _), (96, _)] (fun k => [(97, .int .i64 (k : Int))]) (fun k => [box bx2 25 4 [.int .i64 d.L, .int .i64 d.s, vF, vN], row ws 9 1 (WordsV d 40).length ((WordsV d 40).map sv), row cv 3 1 9 ((cntL (WordsV d 40) (WordsV d 40).length).map (Value.int .i64))]) (fun k => k ≤ 9) (fun k => 9 - k) (0) (.cons rfl (.cons rfl (.cons rfl (.cons rfl (.nil))))) ?_ ?_ ?_ ?_
                  · exact Nat.zero_le _
                  · exact .cons (rfl) (.nil)
                  · exact fun w hw => hw
                  · intro k hg1 _ hK52
                    refine AK.seq (fun _ hK53 => ?_)
                    refine AK.region ?_
                    refine AK.val _ (Yl.lss rfl rfl) trivial rfl ?_
                    refine AK.nil ?_
                    refine AK.then_ (hK53 _ ?_)
                    refine AK.seq (fun _ hK54 => ?_)
                    refine AK.condD rfl (fun hc5 => ?_) (fun hc5 => ?_)
                    · refine AK.skip ?_
                      refine AK.then_ (hK54 _ ?_)
                      refine AK.seq (fun _ hK55 => ?_)
                      refine AK.block ?_
                      refine AK.seq (fun _ hK56 => ?_)
                      refine AK.region ?_
                      refine AK.val _ (Yl.move rfl) trivial rfl ?_
                      refine AK.val _ (Yl.assign rfl) trivial rfl ?_
                      refine AK.nil ?_
                      refine AK.then_ (hK56 _ ?_)
                      refine AK.seq (fun _ hK57 => ?_)
                      try (conv => enter [2, 2]; dsimp only [List.set_cons_zero, List.set_cons_succ, List.cons_append, List.nil_append])
                      refine AK.held 24 mixed ?_
                      refine HeldK.first 0 (fuel := 23) (listed' := #[true, false, false, false, false, false, false, false, false, false, false, false, false, false, false, false, false, false, false, false, false, false, false, false]) _ rfl (by kernel_rfl) rfl rfl (Yl.move rfl) trivial rfl ?_
                      refine HeldK.first 1 (fuel := 22) (listed' := #[true, true, false, false, false, false, false, false, false, false, false, false, false, false, false, false, false, false, false, false, false, false, false, false]) _ rfl (by kernel_rfl) rfl rfl (Yl.lenR sl30 rfl (by first | exact .arg ‹_› | exact .own 0 rfl | exact .own 1 rfl | exact .own 2 rfl | exact .own 3 rfl | exact .own 4 rfl | exact .own 5 rfl | exact .own 6 rfl | exact .own 7 rfl | exact .own 8 rfl | assumption | exact .own 9 rfl | exact .own 10 rfl | exact .own 11 rfl | exact .own 12 rfl)) trivial rfl ?_
                      refine HeldK.first 2 (fuel := 21) (listed' := #[true, true, true, false, false, false, false, false, false, false, false, false, false, false, false, false, false, false, false, false, false, false, false, false]) _ rfl (by kernel_rfl) rfl rfl (Yl.lss rfl rfl) trivial rfl ?_
                      refine HeldK.first 3 (fuel := 20) (listed' := #[true, true, true, true, false, false, false, false, false, false, false, false, false, false, false, false, false, false, false, false, false, false, false, false]) _ rfl (by kernel_rfl) rfl rfl (Yl.move rfl) trivial rfl ?_
                      refine AK.splitB (g := 103) rfl (fun hg_20_3 => ?_) (fun hg_20_3 => ?_)
                      · have hg_20_3' := hg_20_3
                        try simp only [decide_eq_true_eq, decide_eq_false_iff_not, Bool.not_eq_true', Bool.not_eq_false', Bool.not_not, ne_eq, Decidable.not_not, Int.not_lt, Int.not_le, beq_iff_eq, bne_iff_ne, Bool.and_eq_true, Bool.or_eq_true, Bool.or_eq_false_iff, Bool.not_false, Bool.not_true, reduceCtorEq, not_true_eq_false, not_false_eq_true] at hg_20_3'
                        refine HeldK.pass 4 (fuel := 19) (listed' := #[true, true, true, true, true, false, false, false, false, false, false, false, false, false, false, false, false, false, false, false, false, false, false, false]) rfl (by kernel_rfl) rfl rfl rfl (hg_20_3) rfl ?_
                        refine HeldK.pass 5 (fuel := 18) (listed' := #[true, true, true, true, true, true, false, false, false, false, false, false, false, false, false, false, false, false, false, false, false, false, false, false]) rfl (by kernel_rfl) rfl rfl rfl (hg_20_3) rfl ?_
                        refine HeldK.pass 6 (fuel := 17) (listed' := #[true, true, true, true, true, true, true, false, false, false, false, false, false, false, false, false, false, false, false, false, false, false, false, false]) rfl (by kernel_rfl) rfl rfl rfl (hg_20_3) rfl ?_
                        refine HeldK.pass 7 (fuel := 16) (listed' := #[true, true, true, true, true, true, true, true, false, false, false, false, false, false, false, false, false, false, false, false, false, false, false, false]) rfl (by kernel_rfl) rfl rfl rfl (hg_20_3) rfl ?_
                        refine HeldK.pass 8 (fuel := 15) (listed' := #[true, true, true, true, true, true, true, true, true, false, false, false, false, false, false, false, false, false, false, false, false, false, false, false]) rfl (by kernel_rfl) rfl rfl rfl (hg_20_3) rfl ?_
                        refine HeldK.pass 9 (fuel := 14) (listed' := #[true, true, true, true, true, true, true, true, true, true, false, false, false, false, false, false, false, false, false, false, false, false, false, false]) rfl (by kernel_rfl) rfl rfl rfl (hg_20_3) rfl ?_
                        refine HeldK.pass 10 (fuel := 13) (listed' := #[true, true, true, true, true, true, true, true, true, true, true, false, false, false, false, false, false, false, false, false, false, false, false, false]) rfl (by kernel_rfl) rfl rfl rfl (hg_20_3) rfl ?_
                        refine HeldK.pass 11 (fuel := 12) (listed' := #[true, true, true, true, true, true, true, true, true, true, true, true, false, false, false, false, false, false, false, false, false, false, false, false]) rfl (by kernel_rfl) rfl rfl rfl (hg_20_3) rfl ?_
                        refine HeldK.pass 12 (fuel := 11) (listed' := #[true, true, true, true, true, true, true, true, true, true, true, true, true, false, false, false, false, false, false, false, false, false, false, false]) rfl (by kernel_rfl) rfl rfl rfl (hg_20_3) rfl ?_
                        refine HeldK.first 13 (fuel := 10) (listed' := #[true, true, true, true, true, true, true, true, true, true, true, true, true, true, false, false, false, false, false, false, false, false, false, false]) _ rfl (by kernel_rfl) rfl rfl (Yl.pickT rfl (hg_20_3) rfl) trivial rfl ?_
                        refine HeldK.first 14 (fuel := 9) (listed' := #[true, true, true, true, true, true, true, true, true, true, true, true, true, true, true, false, false, false, false, false, false, false, false, false]) _ rfl (by kernel_rfl) rfl rfl (Yl.move rfl) trivial rfl ?_
                        refine HeldK.first 15 (fuel := 8) (listed' := #[true, true, true, true, true, true, true, true, true, true, true, true, true, true, true, true, false, false, false, false, false, false, false, false]) _ rfl (by kernel_rfl) rfl rfl (Yl.loadBoxG ag25 rfl (by first | exact .own 0 rfl | exact .own 1 rfl | exact .own 2 rfl | exact .own 3 rfl | exact .own 4 rfl | exact .own 5 rfl | exact .own 6 rfl | exact .own 7 rfl | exact .own 8 rfl | exact .own 9 rfl | exact .own 10 rfl | exact .own 11 rfl | exact .own 12 rfl | assumption | exact BoxS.arg (by assumption)) rfl rfl) ⟨_, rfl, rfl⟩ rfl ?_
                        refine HeldK.first 16 (fuel := 7) (listed' := #[true, true, true, true, true, true, true, true, true, true, true, true, true, true, true, true, true, false, false, false, false, false, false, false]) _ rfl (by kernel_rfl) rfl rfl (Yl.move rfl) ⟨_, rfl, rfl⟩ rfl ?_
                        refine HeldK.first 18 (fuel := 6) (listed' := #[true, true, true, true, true, true, true, true, true, true, true, true, true, true, true, true, true, false, true, false, false, false, false, false]) _ rfl (by kernel_rfl) rfl rfl (Yl.move rfl) ⟨_, rfl, rfl⟩ rfl ?_
                        refine HeldK.first 19 (fuel := 5) (listed' := #[true, true, true, true, true, true, true, true, true, true, true, true, true, true, true, true, true, false, true, true, false, false, false, false]) _ rfl (by kernel_rfl) rfl rfl (Yl.move rfl) ⟨_, rfl, rfl⟩ rfl ?_
                        first | refine HeldK.first 20 (fuel := 4) (listed' := #[true, true, true, true, true, true, true, true, true, true, true, true, true, true, true, true, true, false, true, true, true, false, false, false]) _ rfl (by kernel_rfl) rfl rfl (Yl.idxN sl38 rfl rfl (by first | exact .arg ‹_› | exact .own 0 rfl | exact .own 1 rfl | exact .own 2 rfl | exact .own 3 rfl | exact .own 4 rfl | exact .own 5 rfl | exact .own 6 rfl | exact .own 7 rfl | exact .own 8 rfl | assumption | exact .own 9 rfl | exact .own 10 rfl | exact .own 11 rfl | exact .own 12 rfl) (by decide) (by omega)) ⟨_, rfl, rfl⟩ rfl ?_ | refine HeldK.first 20 (fuel := 4) (listed' := #[true, true, true, true, true, true, true, true, true, true, true, true, true, true, true, true, true, false, true, true, true, false, false, false]) _ rfl (by kernel_rfl) rfl rfl (Yl.idx sl38 rfl rfl (by first | exact .arg ‹_› | exact .own 0 rfl | exact .own 1 rfl | exact .own 2 rfl | exact .own 3 rfl | exact .own 4 rfl | exact .own 5 rfl | exact .own 6 rfl | exact .own 7 rfl | exact .own 8 rfl | assumption | exact .own 9 rfl | exact .own 10 rfl | exact .own 11 rfl | exact .own 12 rfl) (by decide) (by omega)) ⟨_, rfl, rfl⟩ rfl ?_ | refine HeldK.first 20 (fuel := 4) (listed' := #[true, true, true, true, true, true, true, true, true, true, true, true, true, true, true, true, true, false, true, true, true, false, false, false]) _ rfl (by kernel_rfl) rfl rfl (Yl.idxK sl38 rfl rfl (by first | exact .arg ‹_› | exact .own 0 rfl | exact .own 1 rfl | exact .own 2 rfl | exact .own 3 rfl | exact .own 4 rfl | exact .own 5 rfl | exact .own 6 rfl | exact .own 7 rfl | exact .own 8 rfl | assumption | exact .own 9 rfl | exact .own 10 rfl | exact .own 11 rfl | exact .own 12 rfl) (by decide) (by omega)) ⟨_, rfl, rfl⟩ rfl ?_
                        refine HeldK.first 21 (fuel := 3) (listed' := #[true, true, true, true, true, true, true, true, true, true, true, true, true, true, true, true, true, false, true, true, true, true, false, false]) _ rfl (by kernel_rfl) rfl rfl (Yl.loadI on3 rfl (by first | exact .arg ‹_› | exact .own 0 rfl | exact .own 1 rfl | exact .own 2 rfl | exact .own 3 rfl | exact .own 4 rfl | exact .own 5 rfl | exact .own 6 rfl | exact .own 7 rfl | exact .own 8 rfl | assumption | exact .own 9 rfl | exact .own 10 rfl | exact .own 11 rfl | exact .own 12 rfl) (by omega)) ⟨_, rfl, rfl⟩ rfl ?_
                        refine HeldK.one 17 (fuel := 2) (listed' := #[true, true, true, true, true, true, true, true, true, true, true, true, true, true, true, true, true, true, true, true, true, true, false, false]) (by kernel_rfl) rfl rfl ?_
                        refine AK.call co22 rfl (fun w hw => s_count w _ d (h0.at hw) (k : Int)) ⟨_, rfl, rfl⟩ rfl ?_
                        rintro r o ⟨rfl, rfl⟩
                        refine AK.nil ?_
                        try (conv => enter [2, 2]; dsimp only [List.set_cons_zero, List.set_cons_succ, List.cons_append, List.nil_append])
                        refine HeldK.back (by repeat (first | exact HWle.nil | refine HWle.cons Ale.rfl ?_ | refine HWle.cons Ale.fst ?_)) ?_
                        refine HeldK.first 22 (fuel := 1) (listed' := #[true, true, true, true, true, true, true, true, true, true, true, true, true, true, true, true, true, true, true, true, true, true, true, false]) _ rfl (by kernel_rfl) rfl rfl (Yl.neq rfl rfl) ⟨_, rfl, rfl⟩ rfl ?_
                        refine HeldK.first 23 (fuel := 0) (listed' := #[true, true, true, true, true, true, true, true, true, true, true, true, true, true, true, true, true, true, true, true, true, true, true, true]) _ rfl (by kernel_rfl) rfl rfl (Yl.pickT rfl (rfl) rfl) trivial rfl ?_
                        refine HeldK.done (by kernel_rfl) ?_
                        refine AK.then_ (hK57 _ ?_)
                        refine AK.condNe rfl (fun hc6 => ?_) (fun hc6 => ?_)
                        · refine AK.seq (fun _ hK58 => ?_)
                          refine AK.region ?_
                          refine AK.val _ (Yl.assign rfl) trivial rfl ?_
                          refine AK.nil ?_
                          refine AK.then_ (hK58 _ ?_)
                          refine AK.ret ?_
                          refine AK.block_ret ?_
                          refine AK.then_ret ?_
                          refine AK.then_ret ?_
                          refine AK.block_ret ?_
                          refine AK.then_ret ?_
                          refine AK.ret1 rfl rfl (fun w hw => ⟨_, _, ?_, rfl, Ret.of (hw.pick [] (by decide) rfl rfl)⟩)
                          exfalso
                          refine hc6 ?_
                          rw [cntL_get _ _ (by omega), htk]
                          have ec : (WordsV d 40).length < 40 ∨ k < ((WordsV d 40).getD ((WordsV d 40).length - 1) []).length → (((WordsV d 40).countP (ofL k) : Nat) : Int) = CountV d k := fun h => en_count hv (n := 40) (by omega) (by omega) h
                          exact (ec (by first | exact .inl (by omega) | exact .inr (by rw [← en_last]; omega))).symm
                        · refine AK.skip ?_
                          refine AK.block_normal ?_
                          refine AK.then_ (hK55 _ ?_)
                          refine AK.region ?_
                          refine AK.val _ (Yl.add rfl rfl (by omega)) trivial rfl ?_
                          refine AK.val _ (Yl.move rfl) trivial rfl ?_
                          refine AK.nil ?_
                          refine AK.then_ (hK52 _ _ (k + 1) (by omega) (by omega) (.cons (rfl) (.cons rfl (.cons rfl (.cons rfl (.cons rfl (.nil)))))) (fun w hw => hw))
                      · have hg_20_3' := hg_20_3
                        try simp only [decide_eq_true_eq, decide_eq_false_iff_not, Bool.not_eq_true', Bool.not_eq_false', Bool.not_not, ne_eq, Decidable.not_not, Int.not_lt, Int.not_le, beq_iff_eq, bne_iff_ne, Bool.and_eq_true, Bool.or_eq_true, Bool.or_eq_false_iff, Bool.not_false, Bool.not_true, reduceCtorEq, not_true_eq_false, not_false_eq_true] at hg_20_3'
                        refine HeldK.first 4 (fuel := 19) (listed' := #[true, true, true, true, true, false, false, false, false, false, false, false, false, false, false, false, false, false, false, false, false, false, false, false]) _ rfl (by kernel_rfl) rfl rfl (Yl.move rfl) ⟨_, rfl, congrArg (fun b => some (Value.bool b)) hg_20_3⟩ rfl ?_
                        refine HeldK.first 5 (fuel := 18) (listed' := #[true, true, true, true, true, true, false, false, false, false, false, false, false, false, false, false, false, false, false, false, false, false, false, false]) _ rfl (by kernel_rfl) rfl rfl (Yl.move rfl) ⟨_, rfl, congrArg (fun b => some (Value.bool b)) hg_20_3⟩ rfl ?_
                        refine HeldK.first 6 (fuel := 17) (listed' := #[true, true, true, true, true, true, true, false, false, false, false, false, false, false, false, false, false, false, false, false, false, false, false, false]) _ rfl (by kernel_rfl) rfl rfl (Yl.lenR sl30 rfl (by first | exact .arg ‹_› | exact .own 0 rfl | exact .own 1 rfl | exact .own 2 rfl | exact .own 3 rfl | exact .own 4 rfl | exact .own 5 rfl | exact .own 6 rfl | exact .own 7 rfl | exact .own 8 rfl | assumption | exact .own 9 rfl | exact .own 10 rfl | exact .own 11 rfl | exact .own 12 rfl)) ⟨_, rfl, congrArg (fun b => some (Value.bool b)) hg_20_3⟩ rfl ?_
                        refine HeldK.first 7 (fuel := 16) (listed' := #[true, true, true, true, true, true, true, true, false, false, false, false, false, false, false, false, false, false, false, false, false, false, false, false]) _ rfl (by kernel_rfl) rfl rfl (Yl.sub rfl rfl (by omega)) ⟨_, rfl, congrArg (fun b => some (Value.bool b)) hg_20_3⟩ rfl ?_
                        first | refine HeldK.first 8 (fuel := 15) (listed' := #[true, true, true, true, true, true, true, true, true, false, false, false, false, false, false, false, false, false, false, false, false, false, false, false]) _ rfl (by kernel_rfl) rfl rfl (Yl.idxN sl30 rfl rfl (by first | exact .arg ‹_› | exact .own 0 rfl | exact .own 1 rfl | exact .own 2 rfl | exact .own 3 rfl | exact .own 4 rfl | exact .own 5 rfl | exact .own 6 rfl | exact .own 7 rfl | exact .own 8 rfl | assumption | exact .own 9 rfl | exact .own 10 rfl | exact .own 11 rfl | exact .own 12 rfl) (by decide) (by omega)) ⟨_, rfl, congrArg (fun b => some (Value.bool b)) hg_20_3⟩ rfl ?_ | refine HeldK.first 8 (fuel := 15) (listed' := #[true, true, true, true, true, true, true, true, true, false, false, false, false, false, false, false, false, false, false, false, false, false, false, false]) _ rfl (by kernel_rfl) rfl rfl (Yl.idx sl30 rfl rfl (by first | exact .arg ‹_› | exact .own 0 rfl | exact .own 1 rfl | exact .own 2 rfl | exact .own 3 rfl | exact .own 4 rfl | exact .own 5 rfl | exact .own 6 rfl | exact .own 7 rfl | exact .own 8 rfl | assumption | exact .own 9 rfl | exact .own 10 rfl | exact .own 11 rfl | exact .own 12 rfl) (by decide) (by omega)) ⟨_, rfl, congrArg (fun b => some (Value.bool b)) hg_20_3⟩ rfl ?_ | refine HeldK.first 8 (fuel := 15) (listed' := #[true, true, true, true, true, true, true, true, true, false, false, false, false, false, false, false, false, false, false, false, false, false, false, false]) _ rfl (by kernel_rfl) rfl rfl (Yl.idxK sl30 rfl rfl (by first | exact .arg ‹_› | exact .own 0 rfl | exact .own 1 rfl | exact .own 2 rfl | exact .own 3 rfl | exact .own 4 rfl | exact .own 5 rfl | exact .own 6 rfl | exact .own 7 rfl | exact .own 8 rfl | assumption | exact .own 9 rfl | exact .own 10 rfl | exact .own 11 rfl | exact .own 12 rfl) (by decide) (by omega)) ⟨_, rfl, congrArg (fun b => some (Value.bool b)) hg_20_3⟩ rfl ?_
                        refine HeldK.first 9 (fuel := 14) (listed' := #[true, true, true, true, true, true, true, true, true, true, false, false, false, false, false, false, false, false, false, false, false, false, false, false]) _ rfl (by kernel_rfl) rfl rfl (Yl.loadS on9 rfl (by first | exact .arg ‹_› | exact .own 0 rfl | exact .own 1 rfl | exact .own 2 rfl | exact .own 3 rfl | exact .own 4 rfl | exact .own 5 rfl | exact .own 6 rfl | exact .own 7 rfl | exact .own 8 rfl | assumption | exact .own 9 rfl | exact .own 10 rfl | exact .own 11 rfl | exact .own 12 rfl) (by omega)) ⟨_, rfl, congrArg (fun b => some (Value.bool b)) hg_20_3⟩ rfl ?_
                        refine HeldK.first 10 (fuel := 13) (listed' := #[true, true, true, true, true, true, true, true, true, true, true, false, false, false, false, false, false, false, false, false, false, false, false, false]) _ rfl (by kernel_rfl) rfl rfl (Yl.lenS un9 rfl) ⟨_, rfl, congrArg (fun b => some (Value.bool b)) hg_20_3⟩ rfl ?_
                        refine HeldK.first 11 (fuel := 12) (listed' := #[true, true, true, true, true, true, true, true, true, true, true, true, false, false, false, false, false, false, false, false, false, false, false, false]) _ rfl (by kernel_rfl) rfl rfl (Yl.move rfl) ⟨_, rfl, congrArg (fun b => some (Value.bool b)) hg_20_3⟩ rfl ?_
                        refine HeldK.first 12 (fuel := 11) (listed' := #[true, true, true, true, true, true, true, true, true, true, true, true, true, false, false, false, false, false, false, false, false, false, false, false]) _ rfl (by kernel_rfl) rfl rfl (Yl.gtr rfl rfl) ⟨_, rfl, congrArg (fun b => some (Value.bool b)) hg_20_3⟩ rfl ?_
                        refine HeldK.first 13 (fuel := 10) (listed' := #[true, true, true, true, true, true, true, true, true, true, true, true, true, true, false, false, false, false, false, false, false, false, false, false]) _ rfl (by kernel_rfl) rfl rfl (Yl.pickF rfl (hg_20_3) rfl) trivial rfl ?_
                        refine HeldK.first 14 (fuel := 9) (listed' := #[true, true, true, true, true, true, true, true, true, true, true, true, true, true, true, false, false, false, false, false, false, false, false, false]) _ rfl (by kernel_rfl) rfl rfl (Yl.move rfl) trivial rfl ?_
                        refine AK.splitB (g := 114) rfl (fun hg_20_14 => ?_) (fun hg_20_14 => ?_)
                        · have hg_20_14' := hg_20_14
                          try simp only [decide_eq_true_eq, decide_eq_false_iff_not, Bool.not_eq_true', Bool.not_eq_false', Bool.not_not, ne_eq, Decidable.not_not, Int.not_lt, Int.not_le, beq_iff_eq, bne_iff_ne, Bool.and_eq_true, Bool.or_eq_true, Bool.or_eq_false_iff, Bool.not_false, Bool.not_true, reduceCtorEq, not_true_eq_false, not_false_eq_true] at hg_20_14'
                          refine HeldK.first 15 (fuel := 8) (listed' := #[true, true, true, true, true, true, true, true, true, true, true, true, true, true, true, true, false, false, false, false, false, false, false, false]) _ rfl (by kernel_rfl) rfl rfl (Yl.loadBoxG ag25 rfl (by first | exact .own 0 rfl | exact .own 1 rfl | exact .own 2 rfl | exact .own 3 rfl | exact .own 4 rfl | exact .own 5 rfl | exact .own 6 rfl | exact .own 7 rfl | exact .own 8 rfl | exact .own 9 rfl | exact .own 10 rfl | exact .own 11 rfl | exact .own 12 rfl | assumption | exact BoxS.arg (by assumption)) rfl rfl) ⟨_, rfl, congrArg (fun b => some (Value.bool b)) hg_20_14⟩ rfl ?_
                          refine HeldK.first 16 (fuel := 7) (listed' := #[true, true, true, true, true, true, true, true, true, true, true, true, true, true, true, true, true, false, false, false, false, false, false, false]) _ rfl (by kernel_rfl) rfl rfl (Yl.move rfl) ⟨_, rfl, congrArg (fun b => some (Value.bool b)) hg_20_14⟩ rfl ?_
                          refine HeldK.first 18 (fuel := 6) (listed' := #[true, true, true, true, true, true, true, true, true, true, true, true, true, true, true, true, true, false, true, false, false, false, false, false]) _ rfl (by kernel_rfl) rfl rfl (Yl.move rfl) ⟨_, rfl, congrArg (fun b => some (Value.bool b)) hg_20_14⟩ rfl ?_
                          refine HeldK.first 19 (fuel := 5) (listed' := #[true, true, true, true, true, true, true, true, true, true, true, true, true, true, true, true, true, false, true, true, false, false, false, false]) _ rfl (by kernel_rfl) rfl rfl (Yl.move rfl) ⟨_, rfl, congrArg (fun b => some (Value.bool b)) hg_20_14⟩ rfl ?_
                          first | refine HeldK.first 20 (fuel := 4) (listed' := #[true, true, true, true, true, true, true, true, true, true, true, true, true, true, true, true, true, false, true, true, true, false, false, false]) _ rfl (by kernel_rfl) rfl rfl (Yl.idxN sl38 rfl rfl (by first | exact .arg ‹_› | exact .own 0 rfl | exact .own 1 rfl | exact .own 2 rfl | exact .own 3 rfl | exact .own 4 rfl | exact .own 5 rfl | exact .own 6 rfl | exact .own 7 rfl | exact .own 8 rfl | assumption | exact .own 9 rfl | exact .own 10 rfl | exact .own 11 rfl | exact .own 12 rfl) (by decide) (by omega)) ⟨_, rfl, congrArg (fun b => some (Value.bool b)) hg_20_14⟩ rfl ?_ | refine HeldK.first 20 (fuel := 4) (listed' := #[true, true, true, true, true, true, true, true, true, true, true, true, true, true, true, true, true, false, true, true, true, false, false, false]) _ rfl (by kernel_rfl) rfl rfl (Yl.idx sl38 rfl rfl (by first | exact .arg ‹_› | exact .own 0 rfl | exact .own 1 rfl | exact .own 2 rfl | exact .own 3 rfl | exact .own 4 rfl | exact .own 5 rfl | exact .own 6 rfl | exact .own 7 rfl | exact .own 8 rfl | assumption | exact .own 9 rfl | exact .own 10 rfl | exact .own 11 rfl | exact .own 12 rfl) (by decide) (by omega)) ⟨_, rfl, congrArg (fun b => some (Value.bool b)) hg_20_14⟩ rfl ?_ | refine HeldK.first 20 (fuel := 4) (listed' := #[true, true, true, true, true, true, true, true, true, true, true, true, true, true, true, true, true, false, true, true, true, false, false, false]) _ rfl (by kernel_rfl) rfl rfl (Yl.idxK sl38 rfl rfl (by first | exact .arg ‹_› | exact .own 0 rfl | exact .own 1 rfl | exact .own 2 rfl | exact .own 3 rfl | exact .own 4 rfl | exact .own 5 rfl | exact .own 6 rfl | exact .own 7 rfl | exact .own 8 rfl | assumption | exact .own 9 rfl | exact .own 10 rfl | exact .own 11 rfl | exact .own 12 rfl) (by decide) (by omega)) ⟨_, rfl, congrArg (fun b => some (Value.bool b)) hg_20_14⟩ rfl ?_
                          refine HeldK.first 21 (fuel := 3) (listed' := #[true, true, true, true, true, true, true, true, true, true, true, true, true, true, true, true, true, false, true, true, true, true, false, false]) _ rfl (by kernel_rfl) rfl rfl (Yl.loadI on3 rfl (by first | exact .arg ‹_› | exact .own 0 rfl | exact .own 1 rfl | exact .own 2 rfl | exact .own 3 rfl | exact .own 4 rfl | exact .own 5 rfl | exact .own 6 rfl | exact .own 7 rfl | exact .own 8 rfl | assumption | exact .own 9 rfl | exact .own 10 rfl | exact .own 11 rfl | exact .own 12 rfl) (by omega)) ⟨_, rfl, congrArg (fun b => some (Value.bool b)) hg_20_14⟩ rfl ?_
                          refine HeldK.one 17 (fuel := 2) (listed' := #[true, true, true, true, true, true, true, true, true, true, true, true, true, true, true, true, true, true, true, true, true, true, false, false]) (by kernel_rfl) rfl rfl ?_
                          refine AK.call co22 rfl (fun w hw => s_count w _ d (h0.at hw) (k : Int)) ⟨_, rfl, congrArg (fun b => some (Value.bool b)) hg_20_14⟩ rfl ?_
                          rintro r o ⟨rfl, rfl⟩
                          refine AK.nil ?_
                          try (conv => enter [2, 2]; dsimp only [List.set_cons_zero, List.set_cons_succ, List.cons_append, List.nil_append])
                          refine HeldK.back (by repeat (first | exact HWle.nil | refine HWle.cons Ale.rfl ?_ | refine HWle.cons Ale.fst ?_)) ?_
                          refine HeldK.first 22 (fuel := 1) (listed' := #[true, true, true, true, true, true, true, true, true, true, true, true, true, true, true, true, true, true, true, true, true, true, true, false]) _ rfl (by kernel_rfl) rfl rfl (Yl.neq rfl rfl) ⟨_, rfl, congrArg (fun b => some (Value.bool b)) hg_20_14⟩ rfl ?_
                          refine HeldK.first 23 (fuel := 0) (listed' := #[true, true, true, true, true, true, true, true, true, true, true, true, true, true, true, true, true, true, true, true, true, true, true, true]) _ rfl (by kernel_rfl) rfl rfl (Yl.pickT rfl (hg_20_14) rfl) trivial rfl ?_
                          refine HeldK.done (by kernel_rfl) ?_
                          refine AK.then_ (hK57 _ ?_)
                          refine AK.condNe rfl (fun hc6 => ?_) (fun hc6 => ?_)
                          · refine AK.seq (fun _ hK59 => ?_)
                            refine AK.region ?_
                            refine AK.val _ (Yl.assign rfl) trivial rfl ?_
                            refine AK.nil ?_
                            refine AK.then_ (hK59 _ ?_)
                            refine AK.ret ?_
                            refine AK.block_ret ?_
                            refine AK.then_ret ?_
                            refine AK.then_ret ?_
                            refine AK.block_ret ?_
                            refine AK.then_ret ?_
                            refine AK.ret1 rfl rfl (fun w hw => ⟨_, _, ?_, rfl, Ret.of (hw.pick [] (by decide) rfl rfl)⟩)
                            exfalso
                            refine hc6 ?_
                            rw [cntL_get _ _ (by omega), htk]
                            have ec : (WordsV d 40).length < 40 ∨ k < ((WordsV d 40).getD ((WordsV d 40).length - 1) []).length → (((WordsV d 40).countP (ofL k) : Nat) : Int) = CountV d k := fun h => en_count hv (n := 40) (by omega) (by omega) h
                            exact (ec (by first | exact .inl (by omega) | exact .inr (by rw [← en_last]; omega))).symm
                          · refine AK.skip ?_
                            refine AK.block_normal ?_
                            refine AK.then_ (hK55 _ ?_)
                            refine AK.region ?_
                            refine AK.val _ (Yl.add rfl rfl (by omega)) trivial rfl ?_
                            refine AK.val _ (Yl.move rfl) trivial rfl ?_
                            refine AK.nil ?_
                            refine AK.then_ (hK52 _ _ (k + 1) (by omega) (by omega) (.cons (rfl) (.cons rfl (.cons rfl (.cons rfl (.cons rfl (.nil)))))) (fun w hw => hw))
                        · have hg_20_14' := hg_20_14
                          try simp only [decide_eq_true_eq, decide_eq_false_iff_not, Bool.not_eq_true', Bool.not_eq_false', Bool.not_not, ne_eq, Decidable.not_not, Int.not_lt, Int.not_le, beq_iff_eq, bne_iff_ne, Bool.and_eq_true, Bool.or_eq_true, Bool.or_eq_false_iff, Bool.not_false, Bool.not_true, reduceCtorEq, not_true_eq_false, not_false_eq_true] at hg_20_14'
                          refine HeldK.pass 15 (fuel := 8) (listed' := #[true, true, true, true, true, true, true, true, true, true, true, true, true, true, true, true, false, false, false, false, false, false, false, false]) rfl (by kernel_rfl) rfl rfl rfl (hg_20_14) rfl ?_
                          refine HeldK.pass 16 (fuel := 7) (listed' := #[true, true, true, true, true, true, true, true, true, true, true, true, true, true, true, true, true, false, false, false, false, false, false, false]) rfl (by kernel_rfl) rfl rfl rfl (hg_20_14) rfl ?_
                          refine HeldK.pass 18 (fuel := 6) (listed' := #[true, true, true, true, true, true, true, true, true, true, true, true, true, true, true, true, true, false, true, false, false, false, false, false]) rfl (by kernel_rfl) rfl rfl rfl (hg_20_14) rfl ?_
                          refine HeldK.pass 19 (fuel := 5) (listed' := #[true, true, true, true, true, true, true, true, true, true, true, true, true, true, true, true, true, false, true, true, false, false, false, false]) rfl (by kernel_rfl) rfl rfl rfl (hg_20_14) rfl ?_
                          refine HeldK.pass 20 (fuel := 4) (listed' := #[true, true, true, true, true, true, true, true, true, true, true, true, true, true, true, true, true, false, true, true, true, false, false, false]) rfl (by kernel_rfl) rfl rfl rfl (hg_20_14) rfl ?_
                          refine HeldK.pass 21 (fuel := 3) (listed' := #[true, true, true, true, true, true, true, true, true, true, true, true, true, true, true, true, true, false, true, true, true, true, false, false]) rfl (by kernel_rfl) rfl rfl rfl (hg_20_14) rfl ?_
                          refine HeldK.one 17 (fuel := 2) (listed' := #[true, true, true, true, true, true, true, true, true, true, true, true, true, true, true, true, true, true, true, true, true, true, false, false]) (by kernel_rfl) rfl rfl ?_
                          refine AK.pass rfl rfl (hg_20_14) rfl ?_
                          refine AK.nil ?_
                          try (conv => enter [2, 2]; dsimp only [List.set_cons_zero, List.set_cons_succ, List.cons_append, List.nil_append])
                          refine HeldK.back (by repeat (first | exact HWle.nil | refine HWle.cons Ale.rfl ?_ | refine HWle.cons Ale.fst ?_)) ?_
                          refine HeldK.pass 22 (fuel := 1) (listed' := #[true, true, true, true, true, true, true, true, true, true, true, true, true, true, true, true, true, true, true, true, true, true, true, false]) rfl (by kernel_rfl) rfl rfl rfl (hg_20_14) rfl ?_
                          refine HeldK.first 23 (fuel := 0) (listed' := #[true, true, true, true, true, true, true, true, true, true, true, true, true, true, true, true, true, true, true, true, true, true, true, true]) _ rfl (by kernel_rfl) rfl rfl (Yl.pickF rfl (hg_20_14) rfl) trivial rfl ?_
                          refine HeldK.done (by kernel_rfl) ?_
                          refine AK.then_ (hK57 _ ?_)
                          refine AK.cond_f rfl (rfl) ?_
                          refine AK.skip ?_
                          refine AK.block_normal ?_
                          refine AK.then_ (hK55 _ ?_)
                          refine AK.region ?_
                          refine AK.val _ (Yl.add rfl rfl (by omega)) trivial rfl ?_
                          refine AK.val _ (Yl.move rfl) trivial rfl ?_
                          refine AK.nil ?_
                          refine AK.then_ (hK52 _ _ (k + 1) (by omega) (by omega) (.cons (rfl) (.cons rfl (.cons rfl (.cons rfl (.cons rfl (.nil)))))) (fun w hw => hw))
                    · refine AK.exit ?_
                      refine AK.then_exit ?_
                      refine AK.then_exit ?_
                      refine AK.block_exit ?_
                      refine AK.then_ (hK50 _ ?_)
                      refine AK.seq (fun _ hK60 => ?_)
                      refine AK.region ?_
                      refine AK.call co17 rfl (fun w hw => s_awake w) trivial rfl ?_
                      rintro r o ⟨rfl, rfl⟩
                      refine AK.val _ (Yl.assign rfl) trivial rfl ?_
                      refine AK.nil ?_
                      refine AK.then_ (hK60 _ ?_)
                      refine AK.ret ?_
                      refine AK.ret1 rfl rfl (fun w hw => ⟨_, _, ?_, rfl, Ret.of (hw.pick [] (by decide) rfl rfl)⟩)
                      exact ⟨rfl, rfl⟩
            · have hg_15_11' := hg_15_11
              try simp only [decide_eq_true_eq, decide_eq_false_iff_not, Bool.not_eq_true', Bool.not_eq_false', Bool.not_not, ne_eq, Decidable.not_not, Int.not_lt, Int.not_le, beq_iff_eq, bne_iff_ne, Bool.and_eq_true, Bool.or_eq_true, Bool.or_eq_false_iff, Bool.not_false, Bool.not_true, reduceCtorEq, not_true_eq_false, not_false_eq_true] at hg_15_11'
              refine AK.pass rfl rfl (hg_15_11) rfl ?_
              refine AK.pass rfl rfl (hg_15_11) rfl ?_
              refine AK.pass rfl rfl (hg_15_11) rfl ?_
              refine AK.pass rfl rfl (hg_15_11) rfl ?_
              refine AK.pass rfl rfl trivial rfl ?_
              refine AK.pass rfl rfl trivial rfl ?_
              refine AK.pass rfl rfl trivial rfl ?_
              refine AK.pass rfl rfl trivial rfl ?_
              refine AK.pass rfl rfl trivial rfl ?_
              refine AK.pass rfl rfl trivial rfl ?_
              refine AK.pass rfl rfl trivial rfl ?_
              refine AK.pass rfl rfl trivial rfl ?_
              refine AK.pass rfl rfl trivial rfl ?_
              refine AK.pass rfl rfl (hg_15_11) rfl ?_
              refine AK.val _ (Yl.pickF rfl (hg_15_11) rfl) ⟨_, rfl, congrArg (fun b => some (Value.bool b)) hg_15_3⟩ rfl ?_
              refine AK.val _ (Yl.move rfl) ⟨_, rfl, congrArg (fun b => some (Value.bool b)) hg_15_3⟩ rfl ?_
              refine AK.pass rfl rfl rfl rfl ?_
              refine AK.pass rfl rfl rfl rfl ?_
              refine AK.pass rfl rfl rfl rfl ?_
              refine AK.val _ (Yl.pickF rfl (rfl) rfl) ⟨_, rfl, congrArg (fun b => some (Value.bool b)) hg_15_3⟩ rfl ?_
              refine AK.val _ (Yl.pickF rfl (hg_15_3) rfl) trivial rfl ?_
              refine AK.nil ?_
              refine AK.then_ (hK24 _ ?_)
              refine AK.cond_f rfl (rfl) ?_
              refine AK.skip ?_
              refine AK.then_ (hK23 _ ?_)
              refine AK.seq (fun _ hK61 => ?_)
              refine AK.seq (fun _ hK62 => ?_)
              refine AK.region ?_
              refine AK.val _ (Yl.move rfl) trivial rfl ?_
              refine AK.val _ (Yl.lenR sl38 rfl (by first | exact .arg ‹_› | exact .own 0 rfl | exact .own 1 rfl | exact .own 2 rfl | exact .own 3 rfl | exact .own 4 rfl | exact .own 5 rfl | exact .own 6 rfl | exact .own 7 rfl | exact .own 8 rfl | assumption | exact .own 9 rfl | exact .own 10 rfl | exact .own 11 rfl | exact .own 12 rfl)) trivial rfl ?_
              refine AK.val _ (Yl.move rfl) trivial rfl ?_
              refine AK.nil ?_
              refine AK.then_ (hK62 _ ?_)
              refine AK.block ?_
              refine AK.loopK (X := Nat) [(2, _), (5, _), (7, _), (96, _)] (fun k => [(97, .int .i64 (k : Int))]) (fun k => [box bx2 25 4 [.int .i64 d.L, .int .i64 d.s, vF, vN], row ws 9 1 (WordsV d 40).length ((WordsV d 40).map sv), row cv 3 1 9 ((cntL (WordsV d 40) (WordsV d 40).length).map (Value.int .i64))]) (fun k => k ≤ 9) (fun k => 9 - k) (0) (.cons rfl (.cons rfl (.cons rfl (.cons rfl (.nil))))) ?_ ?_ ?_ ?_
              · exact Nat.zero_le _
              · exact .cons (rfl) (.nil)
              · exact fun w hw => hw
              · intro k hg1 _ hK63
                refine AK.seq (fun _ hK64 => ?_)
                refine AK.region ?_
                refine AK.val _ (Yl.lss rfl rfl) trivial rfl ?_
                refine AK.nil ?_
                refine AK.then_ (hK64 _ ?_)
                refine AK.seq (fun _ hK65 => ?_)
                refine AK.condD rfl (fun hc5 => ?_) (fun hc5 => ?_)
                · refine AK.skip ?_
                  refine AK.then_ (hK65 _ ?_)
                  refine AK.seq (fun _ hK66 => ?_)
                  refine AK.block ?_
                  refine AK.seq (fun _ hK67 => ?_)
                  refine AK.region ?_
                  refine AK.val _ (Yl.move rfl) trivial rfl ?_
                  refine AK.val _ (Yl.assign rfl) trivial rfl ?_
                  refine AK.nil ?_
                  refine AK.then_ (hK67 _ ?_)
                  refine AK.seq (fun _ hK68 => ?_)
                  try (conv => enter [2, 2]; dsimp only [List.set_cons_zero, List.set_cons_succ, List.cons_append, List.nil_append])
                  refine AK.held 24 mixed ?_
                  refine HeldK.first 0 (fuel := 23) (listed' := #[true, false, false, false, false, false, false, false, false, false, false, false, false, false, false, false, false, false, false, false, false, false, false, false]) _ rfl (by kernel_rfl) rfl rfl (Yl.move rfl) trivial rfl ?_
                  refine HeldK.first 1 (fuel := 22) (listed' := #[true, true, false, false, false, false, false, false, false, false, false, false, false, false, false, false, false, false, false, false, false, false, false, false]) _ rfl (by kernel_rfl) rfl rfl (Yl.lenR sl30 rfl (by first | exact .arg ‹_› | exact .own 0 rfl | exact .own 1 rfl | exact .own 2 rfl | exact .own 3 rfl | exact .own 4 rfl | exact .own 5 rfl | exact .own 6 rfl | exact .own 7 rfl | exact .own 8 rfl | assumption | exact .own 9 rfl | exact .own 10 rfl | exact .own 11 rfl | exact .own 12 rfl)) trivial rfl ?_
                  refine HeldK.first 2 (fuel := 21) (listed' := #[true, true, true, false, false, false, false, false, false, false, false, false, false, false, false, false, false, false, false, false, false, false, false, false]) _ rfl (by kernel_rfl) rfl rfl (Yl.lss rfl rfl) trivial rfl ?_
                  refine HeldK.first 3 (fuel := 20) (listed' := #[true, true, true, true, false, false, false, false, false, false, false, false, false, false, false, false, false, false, false, false, false, false, false, false]) _ rfl (by kernel_rfl) rfl rfl (Yl.move rfl) trivial rfl ?_
                  refine AK.splitB (g := 103) rfl (fun hg_20_3 => ?_) (fun hg_20_3 => ?_)
                  · have hg_20_3' := hg_20_3
                    try simp only [decide_eq_true_eq, decide_eq_false_iff_not, Bool.not_eq_true', Bool.not_eq_false', Bool.not_not, ne_eq, Decidable.not_not, Int.not_lt, Int.not_le, beq_iff_eq, bne_iff_ne, Bool.and_eq_true, Bool.or_eq_true, Bool.or_eq_false_iff, Bool.not_false, Bool.not_true, reduceCtorEq, not_true_eq_false, not_false_eq_true] at hg_20_3'
                    refine HeldK.pass 4 (fuel := 19) (listed' := #[true, true, true, true, true, false, false, false, false, false, false, false, false, false, false, false, false, false, false, false, false, false, false, false]) rfl (by kernel_rfl) rfl rfl rfl (hg_20_3) rfl ?_
                    refine HeldK.pass 5 (fuel := 18) (listed' := #[true, true, true, true, true, true, false, false, false, false, false, false, false, false, false, false, false, false, false, false, false, false, false, false]) rfl (by kernel_rfl) rfl rfl rfl (hg_20_3) rfl ?_
                    refine HeldK.pass 6 (fuel := 17) (listed' := #[true, true, true, true, true, true, true, false, false, false, false, false, false, false, false, false, false, false, false, false, false, false, false, false]) rfl (by kernel_rfl) rfl rfl rfl (hg_20_3) rfl ?_
                    refine HeldK.pass 7 (fuel := 16) (listed' := #[true, true, true, true, true, true, true, true, false, false, false, false, false, false, false, false, false, false, false, false, false, false, false, false]) rfl (by kernel_rfl) rfl rfl rfl (hg_20_3) rfl ?_
                    refine HeldK.pass 8 (fuel := 15) (listed' := #[true, true, true, true, true, true, true, true, true, false, false, false, false, false, false, false, false, false, false, false, false, false, false, false]) rfl (by kernel_rfl) rfl rfl rfl (hg_20_3) rfl ?_
                    refine HeldK.pass 9 (fuel := 14) (listed' := #[true, true, true, true, true, true, true, true, true, true, false, false, false, false, false, false, false, false, false, false, false, false, false, false]) rfl (by kernel_rfl) rfl rfl rfl (hg_20_3) rfl ?_
                    refine HeldK.pass 10 (fuel := 13) (listed' := #[true, true, true, true, true, true, true, true, true, true, true, false, false, false, false, false, false, false, false, false, false, false, false, false]) rfl (by kernel_rfl) rfl rfl rfl (hg_20_3) rfl ?_
                    refine HeldK.pass 11 (fuel := 12) (listed' := #[true, true, true, true, true, true, true, true, true, true, true, true, false, false, false, false, false, false, false, false, false, false, false, false]) rfl (by kernel_rfl) rfl rfl rfl (hg_20_3) rfl ?_
                    refine HeldK.pass 12 (fuel := 11) (listed' := #[true, true, true, true, true, true, true, true, true, true, true, true, true, false, false, false, false, false, false, false, false, false, false, false]) rfl (by kernel_rfl) rfl rfl rfl (hg_20_3) rfl ?_
                    refine HeldK.first 13 (fuel := 10) (listed' := #[true, true, true, true, true, true, true, true, true, true, true, true, true, true, false, false, false, false, false, false, false, false, false, false]) _ rfl (by kernel_rfl) rfl rfl (Yl.pickT rfl (hg_20_3) rfl) trivial rfl ?_
                    refine HeldK.first 14 (fuel := 9) (listed' := #[true, true, true, true, true, true, true, true, true, true, true, true, true, true, true, false, false, false, false, false, false, false, false, false]) _ rfl (by kernel_rfl) rfl rfl (Yl.move rfl) trivial rfl ?_
                    refine HeldK.first 15 (fuel := 8) (listed' := #[true, true, true, true, true, true, true, true, true, true, true, true, true, true, true, true, false, false, false, false, false, false, false, false]) _ rfl (by kernel_rfl) rfl rfl (Yl.loadBoxG ag25 rfl (by first | exact .own 0 rfl | exact .own 1 rfl | exact .own 2 rfl | exact .own 3 rfl | exact .own 4 rfl | exact .own 5 rfl | exact .own 6 rfl | exact .own 7 rfl | exact .own 8 rfl | exact .own 9 rfl | exact .own 10 rfl | exact .own 11 rfl | exact .own 12 rfl | assumption | exact BoxS.arg (by assumption)) rfl rfl) ⟨_, rfl, rfl⟩ rfl ?_
                    refine HeldK.first 16 (fuel := 7) (listed' := #[true, true, true, true, true, true, true, true, true, true, true, true, true, true, true, true, true, false, false, false, false, false, false, false]) _ rfl (by kernel_rfl) rfl rfl (Yl.move rfl) ⟨_, rfl, rfl⟩ rfl ?_
                    refine HeldK.first 18 (fuel := 6) (listed' := #[true, true, true, true, true, true, true, true, true, true, true, true, true, true, true, true, true, false, true, false, false, false, false, false]) _ rfl (by kernel_rfl) rfl rfl (Yl.move rfl) ⟨_, rfl, rfl⟩ rfl ?_
                    refine HeldK.first 19 (fuel := 5) (listed' := #[true, true, true, true, true, true, true, true, true, true, true, true, true, true, true, true, true, false, true, true, false, false, false, false]) _ rfl (by kernel_rfl) rfl rfl (Yl.move rfl) ⟨_, rfl, rfl⟩ rfl ?_
                    first | refine HeldK.first 20 (fuel := 4) (listed' := #[true, true, true, true, true, true, true, true, true, true, true, true, true, true, true, true, true, false, true, true, true, false, false, false]) _ rfl (by kernel_rfl) rfl rfl (Yl.idxN sl38 rfl rfl (by first | exact .arg ‹_› | exact .own 0 rfl | exact .own 1 rfl | exact .own 2 rfl | exact .own 3 rfl | exact .own 4 rfl | exact .own 5 rfl | exact .own 6 rfl | exact .own 7 rfl | exact .own 8 rfl | assumption | exact .own 9 rfl | exact .own 10 rfl | exact .own 11 rfl | exact .own 12 rfl) (by decide) (by omega)) ⟨_, rfl, rfl⟩ rfl ?_ | refine HeldK.first 20 (fuel := 4) (listed' := #[true, true, true, true, true, true, true, true, true, true, true, true, true, true, true, true, true, false, true, true, true, false, false, false]) _ rfl (by kernel_rfl) rfl rfl (Yl.idx sl38 rfl rfl (by first | exact .arg ‹_› | exact .own 0 rfl | exact .own 1 rfl | exact .own 2 rfl | exact .own 3 rfl | exact .own 4 rfl | exact .own 5 rfl | exact .own 6 rfl | exact .own 7 rfl | exact .own 8 rfl | assumption | exact .own 9 rfl | exact .own 10 rfl | exact .own 11 rfl | exact .own 12 rfl) (by decide) (by omega)) ⟨_, rfl, rfl⟩ rfl ?_ | refine HeldK.first 20 (fuel := 4) (listed' := #[true, true, true, true, true, true, true, true, true, true, true, true, true, true, true, true, true, false, true, true, true, false, false, false]) _ rfl (by kernel_rfl) rfl rfl (Yl.idxK sl38 rfl rfl (by first | exact .arg ‹_› | exact .own 0 rfl | exact .own 1 rfl | exact .own 2 rfl | exact .own 3 rfl | exact .own 4 rfl | exact .own 5 rfl | exact .own 6 rfl | exact .own 7 rfl | exact .own 8 rfl | assumption | exact .own 9 rfl | exact .own 10 rfl | exact .own 11 rfl | exact .own 12 rfl) (by decide) (by omega)) ⟨_, rfl, rfl⟩ rfl ?_
                    refine HeldK.first 21 (fuel := 3) (listed' := #[true, true, true, true, true, true, true, true, true, true, true, true, true, true, true, true, true, false, true, true, true, true, false, false]) _ rfl (by kernel_rfl) rfl rfl (Yl.loadI on3 rfl (by first | exact .arg ‹_› | exact .own 0 rfl | exact .own 1 rfl | exact .own 2 rfl | exact .own 3 rfl | exact .own 4 rfl | exact .own 5 rfl | exact .own 6 rfl | exact .own 7 rfl | exact .own 8 rfl | assumption | exact .own 9 rfl | exact .own 10 rfl | exact .own 11 rfl | exact .own 12 rfl) (by omega)) ⟨_, rfl, rfl⟩ rfl ?_
                    refine HeldK.one 17 (fuel := 2) (listed' := #[true, true, true, true, true, true, true, true, true, true, true, true, true, true, true, true, true, true, true, true, true, true, false, false]) (by kernel_rfl) rfl rfl ?_
                    refine AK.call co22 rfl (fun w hw => s_count w _ d (h0.at hw) (k : Int)) ⟨_, rfl, rfl⟩ rfl ?_
                    rintro r o ⟨rfl, rfl⟩
                    refine AK.nil ?_
                    try (conv => enter [2, 2]; dsimp only [List.set_cons_zero, List.set_cons_succ, List.cons_append, List.nil_append])
                    refine HeldK.back (by repeat (first | exact HWle.nil | refine HWle.cons Ale.rfl ?_ | refine HWle.cons Ale.fst ?_)) ?_
                    refine HeldK.first 22 (fuel := 1) (listed' := #[true, true, true, true, true, true, true, true, true, true, true, true, true, true, true, true, true, true, true, true, true, true, true, false]) _ rfl (by kernel_rfl) rfl rfl (Yl.neq rfl rfl) ⟨_, rfl, rfl⟩ rfl ?_
                    refine HeldK.first 23 (fuel := 0) (listed' := #[true, true, true, true, true, true, true, true, true, true, true, true, true, true, true, true, true, true, true, true, true, true, true, true]) _ rfl (by kernel_rfl) rfl rfl (Yl.pickT rfl (rfl) rfl) trivial rfl ?_
                    refine HeldK.done (by kernel_rfl) ?_
                    refine AK.then_ (hK68 _ ?_)
                    refine AK.condNe rfl (fun hc6 => ?_) (fun hc6 => ?_)
                    · refine AK.seq (fun _ hK69 => ?_)
                      refine AK.region ?_
                      refine AK.val _ (Yl.assign rfl) trivial rfl ?_
                      refine AK.nil ?_
                      refine AK.then_ (hK69 _ ?_)
                      refine AK.ret ?_
                      refine AK.block_ret ?_
                      refine AK.then_ret ?_
                      refine AK.then_ret ?_
                      refine AK.block_ret ?_
                      refine AK.then_ret ?_
                      refine AK.ret1 rfl rfl (fun w hw => ⟨_, _, ?_, rfl, Ret.of (hw.pick [] (by decide) rfl rfl)⟩)
                      exfalso
                      refine hc6 ?_
                      rw [cntL_get _ _ (by omega), htk]
                      have ec : (WordsV d 40).length < 40 ∨ k < ((WordsV d 40).getD ((WordsV d 40).length - 1) []).length → (((WordsV d 40).countP (ofL k) : Nat) : Int) = CountV d k := fun h => en_count hv (n := 40) (by omega) (by omega) h
                      exact (ec (by first | exact .inl (by omega) | exact .inr (by rw [← en_last]; omega))).symm
                    · refine AK.skip ?_
                      refine AK.block_normal ?_
                      refine AK.then_ (hK66 _ ?_)
                      refine AK.region ?_
                      refine AK.val _ (Yl.add rfl rfl (by omega)) trivial rfl ?_
                      refine AK.val _ (Yl.move rfl) trivial rfl ?_
                      refine AK.nil ?_
                      refine AK.then_ (hK63 _ _ (k + 1) (by omega) (by omega) (.cons (rfl) (.cons rfl (.cons rfl (.cons rfl (.cons rfl (.nil)))))) (fun w hw => hw))
                  · have hg_20_3' := hg_20_3
                    try simp only [decide_eq_true_eq, decide_eq_false_iff_not, Bool.not_eq_true', Bool.not_eq_false', Bool.not_not, ne_eq, Decidable.not_not, Int.not_lt, Int.not_le, beq_iff_eq, bne_iff_ne, Bool.and_eq_true, Bool.or_eq_true, Bool.or_eq_false_iff, Bool.not_false, Bool.not_true, reduceCtorEq, not_true_eq_false, not_false_eq_true] at hg_20_3'
                    refine HeldK.first 4 (fuel := 19) (listed' := #[true, true, true, true, true, false, false, false, false, false, false, false, false, false, false, false, false, false, false, false, false, false, false, false]) _ rfl (by kernel_rfl) rfl rfl (Yl.move rfl) ⟨_, rfl, congrArg (fun b => some (Value.bool b)) hg_20_3⟩ rfl ?_
                    refine HeldK.first 5 (fuel := 18) (listed' := #[true, true, true, true, true, true, false, false, false, false, false, false, false, false, false, false, false, false, false, false, false, false, false, false]) _ rfl (by kernel_rfl) rfl rfl (Yl.move rfl) ⟨_, rfl, congrArg (fun b => some (Value.bool b)) hg_20_3⟩ rfl ?_
                    refine HeldK.first 6 (fuel := 17) (listed' := #[true, true, true, true, true, true, true, false, false, false, false, false, false, false, false, false, false, false, false, false, false, false, false, false]) _ rfl (by kernel_rfl) rfl rfl (Yl.lenR sl30 rfl (by first | exact .arg ‹_› | exact .own 0 rfl | exact .own 1 rfl | exact .own 2 rfl | exact .own 3 rfl | exact .own 4 rfl | exact .own 5 rfl | exact .own 6 rfl | exact .own 7 rfl | exact .own 8 rfl | assumption | exact .own 9 rfl | exact .own 10 rfl | exact .own 11 rfl | exact .own 12 rfl)) ⟨_, rfl, congrArg (fun b => some (Value.bool b)) hg_20_3⟩ rfl ?_
                    refine HeldK.first 7 (fuel := 16) (listed' := #[true, true, true, true, true, true, true, true, false, false, false, false, false, false, false, false, false, false, false, false, false, false, false, false]) _ rfl (by kernel_rfl) rfl rfl (Yl.sub rfl rfl (by omega)) ⟨_, rfl, congrArg (fun b => some (Value.bool b)) hg_20_3⟩ rfl ?_
                    first | refine HeldK.first 8 (fuel := 15) (listed' := #[true, true, true, true, true, true, true, true, true, false, false, false, false, false, false, false, false, false, false, false, false, false, false, false]) _ rfl (by kernel_rfl) rfl rfl (Yl.idxN sl30 rfl rfl (by first | exact .arg ‹_› | exact .own 0 rfl | exact .own 1 rfl | exact .own 2 rfl | exact .own 3 rfl | exact .own 4 rfl | exact .own 5 rfl | exact .own 6 rfl | exact .own 7 rfl | exact .own 8 rfl | assumption | exact .own 9 rfl | exact .own 10 rfl | exact .own 11 rfl | exact .own 12 rfl) (by decide) (by omega)) ⟨_, rfl, congrArg (fun b => some (Value.bool b)) hg_20_3⟩ rfl ?_ | refine HeldK.first 8 (fuel := 15) (listed' := #[true, true, true, true, true, true, true, true, true, false, false, false, false, false, false, false, false, false, false, false, false, false, false, false]) _ rfl (by kernel_rfl) rfl rfl (Yl.idx sl30 rfl rfl (by first | exact .arg ‹_› | exact .own 0 rfl | exact .own 1 rfl | exact .own 2 rfl | exact .own 3 rfl | exact .own 4 rfl | exact .own 5 rfl | exact .own 6 rfl | exact .own 7 rfl | exact .own 8 rfl | assumption | exact .own 9 rfl | exact .own 10 rfl | exact .own 11 rfl | exact .own 12 rfl) (by decide) (by omega)) ⟨_, rfl, congrArg (fun b => some (Value.bool b)) hg_20_3⟩ rfl ?_ | refine HeldK.first 8 (fuel := 15) (listed' := #[true, true, true, true, true, true, true, true, true, false, false, false, false, false, false, false, false, false, false, false, false, false, false, false]) _ rfl (by kernel_rfl) rfl rfl (Yl.idxK sl30 rfl rfl (by first | exact .arg ‹_› | exact .own 0 rfl | exact .own 1 rfl | exact .own 2 rfl | exact .own 3 rfl | exact .own 4 rfl | exact .own 5 rfl | exact .own 6 rfl | exact .own 7 rfl | exact .own 8 rfl | assumption | exact .own 9 rfl | exact .own 10 rfl | exact .own 11 rfl | exact .own 12 rfl) (by decide) (by omega)) ⟨_, rfl, congrArg (fun b => some (Value.bool b)) hg_20_3⟩ rfl ?_
                    refine HeldK.first 9 (fuel := 14) (listed' := #[true, true, true, true, true, true, true, true, true, true, false, false, false, false, false, false, false, false, false, false, false, false, false, false]) _ rfl (by kernel_rfl) rfl rfl (Yl.loadS on9 rfl (by first | exact .arg ‹_› | exact .own 0 rfl | exact .own 1 rfl | exact .own 2 rfl | exact .own 3 rfl | exact .own 4 rfl | exact .own 5 rfl | exact .own 6 rfl | exact .own 7 rfl | exact .own 8 rfl | assumption | exact .own 9 rfl | exact .own 10 rfl | exact .own 11 rfl | exact .own 12 rfl) (by omega)) ⟨_, rfl, congrArg (fun b => some (Value.bool b)) hg_20_3⟩ rfl ?_
                    refine HeldK.first 10 (fuel := 13) (listed' := #[true, true, true, true, true, true, true, true, true, true, true, false, false, false, false, false, false, false, false, false, false, false, false, false]) _ rfl (by kernel_rfl) rfl rfl (Yl.lenS un9 rfl) ⟨_, rfl, congrArg (fun b => some (Value.bool b)) hg_20_3⟩ rfl ?_
                    refine HeldK.first 11 (fuel := 12) (listed' := #[true, true, true, true, true, true, true, true, true, true, true, true, false, false, false, false, false, false, false, false, false, false, false, false]) _ rfl (by kernel_rfl) rfl rfl (Yl.move rfl) ⟨_, rfl, congrArg (fun b => some (Value.bool b)) hg_20_3⟩ rfl ?_
                    refine HeldK.first 12 (fuel := 11) (listed' := #[true, true, true, true, true, true, true, true, true, true, true, true, true, false, false, false, false, false, false, false, false, false, false, false]) _ rfl (by kernel_rfl) rfl rfl (Yl.gtr rfl rfl) ⟨_, rfl, congrArg (fun b => some (Value.bool b)) hg_20_3⟩ rfl ?_
                    refine HeldK.first 13 (fuel := 10) (listed' := #[true, true, true, true, true, true, true, true, true, true, true, true, true, true, false, false, false, false, false, false, false, false, false, false]) _ rfl (by kernel_rfl) rfl rfl (Yl.pickF rfl (hg_20_3) rfl) trivial rfl ?_
                    refine HeldK.first 14 (fuel := 9) (listed' := #[true, true, true, true, true, true, true, true, true, true, true, true, true, true, true, false, false, false, false, false, false, false, false, false]) _ rfl (by kernel_rfl) rfl rfl (Yl.move rfl) trivial rfl ?_
                    refine AK.splitB (g := 114) rfl (fun hg_20_14 => ?_) (fun hg_20_14 => ?_)
                    · have hg_20_14' := hg_20_14
                      try simp only [decide_eq_true_eq, decide_eq_false_iff_not, Bool.not_eq_true', Bool.not_eq_false', Bool.not_not, ne_eq, Decidable.not_not, Int.not_lt, Int.not_le, beq_iff_eq, bne_iff_ne, Bool.and_eq_true, Bool.or_eq_true, Bool.or_eq_false_iff, Bool.not_false, Bool.not_true, reduceCtorEq, not_true_eq_false, not_false_eq_true] at hg_20_14'
                      refine HeldK.first 15 (fuel := 8) (listed' := #[true, true, true, true, true, true, true, true, true, true, true, true, true, true, true, true, false, false, false, false, false, false, false, false]) _ rfl (by kernel_rfl) rfl rfl (Yl.loadBoxG ag25 rfl (by first | exact .own 0 rfl | exact .own 1 rfl | exact .own 2 rfl | exact .own 3 rfl | exact .own 4 rfl | exact .own 5 rfl | exact .own 6 rfl | exact .own 7 rfl | exact .own 8 rfl | exact .own 9 rfl | exact .own 10 rfl | exact .own 11 rfl | exact .own 12 rfl | assumption | exact BoxS.arg (by assumption)) rfl rfl) ⟨_, rfl, congrArg (fun b => some (Value.bool b)) hg_20_14⟩ rfl ?_
                      refine HeldK.first 16 (fuel := 7) (listed' := #[true, true, true, true, true, true, true, true, true, true, true, true, true, true, true, true, true, false, false, false, false, false, false, false]) _ rfl (by kernel_rfl) rfl rfl (Yl.move rfl) ⟨_, rfl, congrArg (fun b => some (Value.bool b)) hg_20_14⟩ rfl ?_
                      refine HeldK.first 18 (fuel := 6) (listed' := #[true, true, true, true, true, true, true, true, true, true, true, true, true, true, true, true, true, false, true, false, false, false, false, false]) _ rfl (by kernel_rfl) rfl rfl (Yl.move rfl) ⟨_, rfl, congrArg (fun b => some (Value.bool b)) hg_20_14⟩ rfl ?_
                      refine HeldK.first 19 (fuel := 5) (listed' := #[true, true, true, true, true, true, true, true, true, true, true, true, true, true, true, true, true, false, true, true, false, false, false, false]) _ rfl (by kernel_rfl) rfl rfl (Yl.move rfl) ⟨_, rfl, congrArg (fun b => some (Value.bool b)) hg_20_14⟩ rfl ?_
                      first | refine HeldK.first 20 (fuel := 4) (listed' := #[true, true, true, true, true, true, true, true, true, true, true, true, true, true, true, true, true, false, true, true, true, false, false, false]) _ rfl (by kernel_rfl) rfl rfl (Yl.idxN sl38 rfl rfl (by first | exact .arg ‹_› | exact .own 0 rfl | exact .own 1 rfl | exact .own 2 rfl | exact .own 3 rfl | exact .own 4 rfl | exact .own 5 rfl | exact .own 6 rfl | exact .own 7 rfl | exact .own 8 rfl | assumption | exact .own 9 rfl | exact .own 10 rfl | exact .own 11 rfl | exact .own 12 rfl) (by decide) (by omega)) ⟨_, rfl, congrArg (fun b => some (Value.bool b)) hg_20_14⟩ rfl ?_ | refine HeldK.first 20 (fuel := 4) (listed' := #[true, true, true, true, true, true, true, true, true, true, true, true, true, true, true, true, true, false, true, true, true, false, false, false]) _ rfl (by kernel_rfl) rfl rfl (Yl.idx sl38 rfl rfl (by first | exact .arg ‹_› | exact .own 0 rfl | exact .own 1 rfl | exact .own 2 rfl | exact .own 3 rfl | exact .own 4 rfl | exact .own 5 rfl | exact .own 6 rfl | exact .own 7 rfl | exact .own 8 rfl | assumption | exact .own 9 rfl | exact .own 10 rfl | exact .own 11 rfl | exact .own 12 rfl) (by decide) (by omega)) ⟨_, rfl, congrArg (fun b => some (Value.bool b)) hg_20_14⟩ rfl ?_ | refine HeldK.first 20 (fuel := 4) (listed' := #[true, true, true, true, true, true, true, true, true, true, true, true, true, true, true, true, true, false, true, true, true, false, false, false]) _ rfl (by kernel_rfl) rfl rfl (Yl.idxK sl38 rfl rfl (by first | exact .arg ‹_› | exact .own 0 rfl | exact .own 1 rfl | exact .own 2 rfl | exact .own 3 rfl | exact .own 4 rfl | exact .own 5 rfl | exact .own 6 rfl | exact .own 7 rfl | exact .own 8 rfl | assumption | exact .own 9 rfl | exact .own 10 rfl | exact .own 11 rfl | exact .own 12 rfl) (by decide) (by omega)) ⟨_, rfl, congrArg (fun b => some (Value.bool b)) hg_20_14⟩ rfl ?_
                      refine HeldK.first 21 (fuel := 3) (listed' := #[true, true, true, true, true, true, true, true, true, true, true, true, true, true, true, true, true, false, true, true, true, true, false, false]) _ rfl (by kernel_rfl) rfl rfl (Yl.loadI on3 rfl (by first | exact .arg ‹_› | exact .own 0 rfl | exact .own 1 rfl | exact .own 2 rfl | exact .own 3 rfl | exact .own 4 rfl | exact .own 5 rfl | exact .own 6 rfl | exact .own 7 rfl | exact .own 8 rfl | assumption | exact .own 9 rfl | exact .own 10 rfl | exact .own 11 rfl | exact .own 12 rfl) (by omega)) ⟨_, rfl, congrArg (fun b => some (Value.bool b)) hg_20_14⟩ rfl ?_
                      refine HeldK.one 17 (fuel := 2) (listed' := #[true, true, true, true, true, true, true, true, true, true, true, true, true, true, true, true, true, true, true, true, true, true, false, false]) (by kernel_rfl) rfl rfl ?_
                      refine AK.call co22 rfl (fun w hw => s_count w _ d (h0.at hw) (k : Int)) ⟨_, rfl, congrArg (fun b => some (Value.bool b)) hg_20_14⟩ rfl ?_
                      rintro r o ⟨rfl, rfl⟩
                      refine AK.nil ?_
                      try (conv => enter [2, 2]; dsimp only [List.set_cons_zero, List.set_cons_succ, List.cons_append, List.nil_append])
                      refine HeldK.back (by repeat (first | exact HWle.nil | refine HWle.cons Ale.rfl ?_ | refine HWle.cons Ale.fst ?_)) ?_
                      refine HeldK.first 22 (fuel := 1) (listed' := #[true, true, true, true, true, true, true, true, true, true, true, true, true, true, true, true, true, true, true, true, true, true, true, false]) _ rfl (by kernel_rfl) rfl rfl (Yl.neq rfl rfl) ⟨_, rfl, congrArg (fun b => some (Value.bool b)) hg_20_14⟩ rfl ?_
                      refine HeldK.first 23 (fuel := 0) (listed' := #[true, true, true, true, true, true, true, true, true, true, true, true, true, true, true, true, true, true, true, true, true, true, true, true]) _ rfl (by kernel_rfl) rfl rfl (Yl.pickT rfl (hg_20_14) rfl) trivial rfl ?_
                      refine HeldK.done (by kernel_rfl) ?_
                      refine AK.then_ (hK68 _ ?_)
                      refine AK.condNe rfl (fun hc6 => ?_) (fun hc6 => ?_)
                      · refine AK.seq (fun _ hK70 => ?_)
                        refine AK.region ?_
                        refine AK.val _ (Yl.assign rfl) trivial rfl ?_
                        refine AK.nil ?_
                        refine AK.then_ (hK70 _ ?_)
                        refine AK.ret ?_
                        refine AK.block_ret ?_
                        refine AK.then_ret ?_
                        refine AK.then_ret ?_
                        refine AK.block_ret ?_
                        refine AK.then_ret ?_
                        refine AK.ret1 rfl rfl (fun w hw => ⟨_, _, ?_, rfl, Ret.of (hw.pick [] (by decide) rfl rfl)⟩)
                        exfalso
                        refine hc6 ?_
                        rw [cntL_get _ _ (by omega), htk]
                        have ec : (WordsV d 40).length < 40 ∨ k < ((WordsV d 40).getD ((WordsV d 40).length - 1) []).length → (((WordsV d 40).countP (ofL k) : Nat) : Int) = CountV d k := fun h => en_count hv (n := 40) (by omega) (by omega) h
                        exact (ec (by first | exact .inl (by omega) | exact .inr (by rw [← en_last]; omega))).symm
                      · refine AK.skip ?_
                        refine AK.block_normal ?_
                        refine AK.then_ (hK66 _ ?_)
                        refine AK.region ?_
                        refine AK.val _ (Yl.add rfl rfl (by omega)) trivial rfl ?_
                        refine AK.val _ (Yl.move rfl) trivial rfl ?_
                        refine AK.nil ?_
                        refine AK.then_ (hK63 _ _ (k + 1) (by omega) (by omega) (.cons (rfl) (.cons rfl (.cons rfl (.cons rfl (.cons rfl (.nil)))))) (fun w hw => hw))
                    · have hg_20_14' := hg_20_14
                      try simp only [decide_eq_true_eq, decide_eq_false_iff_not, Bool.not_eq_true', Bool.not_eq_false', Bool.not_not, ne_eq, Decidable.not_not, Int.not_lt, Int.not_le, beq_iff_eq, bne_iff_ne, Bool.and_eq_true, Bool.or_eq_true, Bool.or_eq_false_iff, Bool.not_false, Bool.not_true, reduceCtorEq, not_true_eq_false, not_false_eq_true] at hg_20_14'
                      refine HeldK.pass 15 (fuel := 8) (listed' := #[true, true, true, true, true, true, true, true, true, true, true, true, true, true, true, true, false, false, false, false, false, false, false, false]) rfl (by kernel_rfl) rfl rfl rfl (hg_20_14) rfl ?_
                      refine HeldK.pass 16 (fuel := 7) (listed' := #[true, true, true, true, true, true, true, true, true, true, true, true, true, true, true, true, true, false, false, false, false, false, false, false]) rfl (by kernel_rfl) rfl rfl rfl (hg_20_14) rfl ?_
                      refine HeldK.pass 18 (fuel := 6) (listed' := #[true, true, true, true, true, true, true, true, true, true, true, true, true, true, true, true, true, false, true, false, false, false, false, false]) rfl (by kernel_rfl) rfl rfl rfl (hg_20_14) rfl ?_
                      refine HeldK.pass 19 (fuel := 5) (listed' := #[true, true, true, true, true, true, true, true, true, true, true, true, true, true, true, true, true, false, true, true, false, false, false, false]) rfl (by kernel_rfl) rfl rfl rfl (hg_20_14) rfl ?_
                      refine HeldK.pass 20 (fuel := 4) (listed' := #[true, true, true, true, true, true, true, true, true, true, true, true, true, true, true, true, true, false, true, true, true, false, false, false]) rfl (by kernel_rfl) rfl rfl rfl (hg_20_14) rfl ?_
                      refine HeldK.pass 21 (fuel := 3) (listed' := #[true, true, true, true, true, true, true, true, true, true, true, true, true, true, true, true, true, false, true, true, true, true, false, false]) rfl (by kernel_rfl) rfl rfl rfl (hg_20_14) rfl ?_
                      refine HeldK.one 17 (fuel := 2) (listed' := #[true, true, true, true, true, true, true, true, true, true, true, true, true, true, true, true, true, true, true, true, true, true, false, false]) (by kernel_rfl) rfl rfl ?_
                      refine AK.pass rfl rfl (hg_20_14) rfl ?_
                      refine AK.nil ?_
                      try (conv => enter [2, 2]; dsimp only [List.set_cons_zero, List.set_cons_succ, List.cons_append, List.nil_append])
                      refine HeldK.back (by repeat (first | exact HWle.nil | refine HWle.cons Ale.rfl ?_ | refine HWle.cons Ale.fst ?_)) ?_
                      refine HeldK.pass 22 (fuel := 1) (listed' := #[true, true, true, true, true, true, true, true, true, true, true, true, true, true, true, true, true, true, true, true, true, true, true, false]) rfl (by kernel_rfl) rfl rfl rfl (hg_20_14) rfl ?_
                      refine HeldK.first 23 (fuel := 0) (listed' := #[true, true, true, true, true, true, true, true, true, true, true, true, true, true, true, true, true, true, true, true, true, true, true, true]) _ rfl (by kernel_rfl) rfl rfl (Yl.pickF rfl (hg_20_14) rfl) trivial rfl ?_
                      refine HeldK.done (by kernel_rfl) ?_
                      refine AK.then_ (hK68 _ ?_)
                      refine AK.cond_f rfl (rfl) ?_
                      refine AK.skip ?_
                      refine AK.block_normal ?_
                      refine AK.then_ (hK66 _ ?_)
                      refine AK.region ?_
                      refine AK.val _ (Yl.add rfl rfl (by omega)) trivial rfl ?_
                      refine AK.val _ (Yl.move rfl) trivial rfl ?_
                      refine AK.nil ?_
                      refine AK.then_ (hK63 _ _ (k + 1) (by omega) (by omega) (.cons (rfl) (.cons rfl (.cons rfl (.cons rfl (.cons rfl (.nil)))))) (fun w hw => hw))
                · refine AK.exit ?_
                  refine AK.then_exit ?_
                  refine AK.then_exit ?_
                  refine AK.block_exit ?_
                  refine AK.then_ (hK61 _ ?_)
                  refine AK.seq (fun _ hK71 => ?_)
                  refine AK.region ?_
                  refine AK.call co17 rfl (fun w hw => s_awake w) trivial rfl ?_
                  rintro r o ⟨rfl, rfl⟩
                  refine AK.val _ (Yl.assign rfl) trivial rfl ?_
                  refine AK.nil ?_
                  refine AK.then_ (hK71 _ ?_)
                  refine AK.ret ?_
                  refine AK.ret1 rfl rfl (fun w hw => ⟨_, _, ?_, rfl, Ret.of (hw.pick [] (by decide) rfl rfl)⟩)
                  exact ⟨rfl, rfl⟩
          · have hg_15_7' := hg_15_7
            try simp only [decide_eq_true_eq, decide_eq_false_iff_not, Bool.not_eq_true', Bool.not_eq_false', Bool.not_not, ne_eq, Decidable.not_not, Int.not_lt, Int.not_le, beq_iff_eq, bne_iff_ne, Bool.and_eq_true, Bool.or_eq_true, Bool.or_eq_false_iff, Bool.not_false, Bool.not_true, reduceCtorEq, not_true_eq_false, not_false_eq_true] at hg_15_7'
            refine AK.pass rfl rfl (hg_15_7) rfl ?_
            refine AK.pass rfl rfl (hg_15_7) rfl ?_
            refine AK.val _ (Yl.pickF rfl (hg_15_7) rfl) ⟨_, rfl, congrArg (fun b => some (Value.bool b)) hg_15_3⟩ rfl ?_
            refine AK.val _ (Yl.move rfl) ⟨_, rfl, congrArg (fun b => some (Value.bool b)) hg_15_3⟩ rfl ?_
            refine AK.pass rfl rfl rfl rfl ?_
            refine AK.pass rfl rfl rfl rfl ?_
            refine AK.pass rfl rfl rfl rfl ?_
            refine AK.pass rfl rfl rfl rfl ?_
            refine AK.pass rfl rfl trivial rfl ?_
            refine AK.pass rfl rfl trivial rfl ?_
            refine AK.pass rfl rfl trivial rfl ?_
            refine AK.pass rfl rfl trivial rfl ?_
            refine AK.pass rfl rfl trivial rfl ?_
            refine AK.pass rfl rfl trivial rfl ?_
            refine AK.pass rfl rfl trivial rfl ?_
            refine AK.pass rfl rfl trivial rfl ?_
            refine AK.pass rfl rfl trivial rfl ?_
            refine AK.pass rfl rfl rfl rfl ?_
            refine AK.val _ (Yl.pickF rfl (rfl) rfl) ⟨_, rfl, congrArg (fun b => some (Value.bool b)) hg_15_3⟩ rfl ?_
            refine AK.val _ (Yl.move rfl) ⟨_, rfl, congrArg (fun b => some (Value.bool b)) hg_15_3⟩ rfl ?_
            refine AK.pass rfl rfl rfl rfl ?_
            refine AK.pass rfl rfl rfl rfl ?_
            refine AK.pass rfl rfl rfl rfl ?_
            refine AK.val _ (Yl.pickF rfl (rfl) rfl) ⟨_, rfl, congrArg (fun b => some (Value.bool b)) hg_15_3⟩ rfl ?_
            refine AK.val _ (Yl.pickF rfl (hg_15_3) rfl) trivial rfl ?_
            refine AK.nil ?_
            refine AK.then_ (hK24 _ ?_)
            refine AK.cond_f rfl (rfl) ?_
            refine AK.skip ?_
            refine AK.then_ (hK23 _ ?_)
            refine AK.seq (fun _ hK72 => ?_)
            refine AK.seq (fun _ hK73 => ?_)
            refine AK.region ?_
            refine AK.val _ (Yl.move rfl) trivial rfl ?_
            refine AK.val _ (Yl.lenR sl38 rfl (by first | exact .arg ‹_› | exact .own 0 rfl | exact .own 1 rfl | exact .own 2 rfl | exact .own 3 rfl | exact .own 4 rfl | exact .own 5 rfl | exact .own 6 rfl | exact .own 7 rfl | exact .own 8 rfl | assumption | exact .own 9 rfl | exact .own 10 rfl | exact .own 11 rfl | exact .own 12 rfl)) trivial rfl ?_
            refine AK.val _ (Yl.move rfl) trivial rfl ?_
            refine AK.nil ?_
            refine AK.then_ (hK73 _ ?_)
            refine AK.block ?_
            refine AK.loopK (X := Nat) [(2, _), (5, _), (7, _), (96, _)] (fun k => [(97, .int .i64 (k : Int))]) (fun k => [box bx2 25 4 [.int .i64 d.L, .int .i64 d.s, vF, vN], row ws 9 1 (WordsV d 40).length ((WordsV d 40).map sv), row cv 3 1 9 ((cntL (WordsV d 40) (WordsV d 40).length).map (Value.int .i64))]) (fun k => k ≤ 9) (fun k => 9 - k) (0) (.cons rfl (.cons rfl (.cons rfl (.cons rfl (.nil))))) ?_ ?_ ?_ ?_
            · exact Nat.zero_le _
            · exact .cons (rfl) (.nil)
            · exact fun w hw => hw
            · intro k hg1 _ hK74
              refine AK.seq (fun _ hK75 => ?_)
              refine AK.region ?_
              refine AK.val _ (Yl.lss rfl rfl) trivial rfl ?_
              refine AK.nil ?_
              refine AK.then_ (hK75 _ ?_)
              refine AK.seq (fun _ hK76 => ?_)
              refine AK.condD rfl (fun hc5 => ?_) (fun hc5 => ?_)
              · refine AK.skip ?_
                refine AK.then_ (hK76 _ ?_)
                refine AK.seq (fun _ hK77 => ?_)
                refine AK.block ?_
                refine AK.seq (fun _ hK78 => ?_)
                refine AK.region ?_
                refine AK.val _ (Yl.move rfl) trivial rfl ?_
                refine AK.val _ (Yl.assign rfl) trivial rfl ?_
                refine AK.nil ?_
                refine AK.then_ (hK78 _ ?_)
                refine AK.seq (fun _ hK79 => ?_)
                try (conv => enter [2, 2]; dsimp only [List.set_cons_zero, List.set_cons_succ, List.cons_append, List.nil_append])
                refine AK.held 24 mixed ?_
                refine HeldK.first 0 (fuel := 23) (listed' := #[true, false, false, false, false, false, false, false, false, false, false, false, false, false, false, false, false, false, false, false, false, false, false, false]) _ rfl (by kernel_rfl) rfl rfl (Yl.move rfl) trivial rfl ?_
                refine HeldK.first 1 (fuel := 22) (listed' := #[true, true, false, false, false, false, false, false, false, false, false, false, false, false, false, false, false, false, false, false, false, false, false, false]) _ rfl (by kernel_rfl) rfl rfl (Yl.lenR sl30 rfl (by first | exact .arg ‹_› | exact .own 0 rfl | exact .own 1 rfl | exact .own 2 rfl | exact .own 3 rfl | exact .own 4 rfl | exact .own 5 rfl | exact .own 6 rfl | exact .own 7 rfl | exact .own 8 rfl | assumption | exact .own 9 rfl | exact .own 10 rfl | exact .own 11 rfl | exact .own 12 rfl)) trivial rfl ?_
                refine HeldK.first 2 (fuel := 21) (listed' := #[true, true, true, false, false, false, false, false, false, false, false, false, false, false, false, false, false, false, false, false, false, false, false, false]) _ rfl (by kernel_rfl) rfl rfl (Yl.lss rfl rfl) trivial rfl ?_
                refine HeldK.first 3 (fuel := 20) (listed' := #[true, true, true, true, false, false, false, false, false, false, false, false, false, false, false, false, false, false, false, false, false, false, false, false]) _ rfl (by kernel_rfl) rfl rfl (Yl.move rfl) trivial rfl ?_
                refine AK.splitB (g := 103) rfl (fun hg_20_3 => ?_) (fun hg_20_3 => ?_)
                · have hg_20_3' := hg_20_3
                  try simp only [decide_eq_true_eq, decide_eq_false_iff_not, Bool.not_eq_true', Bool.not_eq_false', Bool.not_not, ne_eq, Decidable.not_not, Int.not_lt, Int.not_le, beq_iff_eq, bne_iff_ne, Bool.and_eq_true, Bool.or_eq_true, Bool.or_eq_false_iff, Bool.not_false, Bool.not_true, reduceCtorEq, not_true_eq_false, not_false_eq_true] at hg_20_3'
                  refine HeldK.pass 4 (fuel := 19) (listed' := #[true, true, true, true, true, false, false, false, false, false, false, false, false, false, false, false, false, false, false, false, false, false, false, false]) rfl (by kernel_rfl) rfl rfl rfl (hg_20_3) rfl ?_
                  refine HeldK.pass 5 (fuel := 18) (listed' := #[true, true, true, true, true, true, false, false, false, false, false, false, false, false, false, false, false, false, false, false, false, false, false, false]) rfl (by kernel_rfl) rfl rfl rfl (hg_20_3) rfl ?_
                  refine HeldK.pass 6 (fuel := 17) (listed' := #[true, true, true, true, true, true, true, false, false, false, false, false, false, false, false, false, false, false, false, false, false, false, false, false]) rfl (by kernel_rfl) rfl rfl rfl (hg_20_3) rfl ?_
                  refine HeldK.pass 7 (fuel := 16) (listed' := #[true, true, true, true, true, true, true, true, false, false, false, false, false, false, false, false, false, false, false, false, false, false, false, false]) rfl (by kernel_rfl) rfl rfl rfl (hg_20_3) rfl ?_
                  refine HeldK.pass 8 (fuel := 15) (listed' := #[true, true, true, true, true, true, true, true, true, false, false, false, false, false, false, false, false, false, false, false, false, false, false, false]) rfl (by kernel_rfl) rfl rfl rfl (hg_20_3) rfl ?_
                  refine HeldK.pass 9 (fuel := 14) (listed' := #[true, true, true, true, true, true, true, true, true, true, false, false, false, false, false, false, false, false, false, false, false, false, false, false]) rfl (by kernel_rfl) rfl rfl rfl (hg_20_3) rfl ?_
                  refine HeldK.pass 10 (fuel := 13) (listed' := #[true, true, true, true, true, true, true, true, true, true, true, false, false, false, false, false, false, false, false, false, false, false, false, false]) rfl (by kernel_rfl) rfl rfl rfl (hg_20_3) rfl ?_
                  refine HeldK.pass 11 (fuel := 12) (listed' := #[true, true, true, true, true, true, true, true, true, true, true, true, false, false, false, false, false, false, false, false, false, false, false, false]) rfl (by kernel_rfl) rfl rfl rfl (hg_20_3) rfl ?_
                  refine HeldK.pass 12 (fuel := 11) (listed' := #[true, true, true, true, true, true, true, true, true, true, true, true, true, false, false, false, false, false, false, false, false, false, false, false]) rfl (by kernel_rfl) rfl rfl rfl (hg_20_3) rfl ?_
                  refine HeldK.first 13 (fuel := 10) (listed' := #[true, true, true, true, true, true, true, true, true, true, true, true, true, true, false, false, false, false, false, false, false, false, false, false]) _ rfl (by kernel_rfl) rfl rfl (Yl.pickT rfl (hg_20_3) rfl) trivial rfl ?_
                  refine HeldK.first 14 (fuel := 9) (listed' := #[true, true, true, true, true, true, true, true, true, true, true, true, true, true, true, false, false, false, false, false, false, false, false, false]) _ rfl (by kernel_rfl) rfl rfl (Yl.move rfl) trivial rfl ?_
                  refine HeldK.first 15 (fuel := 8) (listed' := #[true, true, true, true, true, true, true, true, true, true, true, true, true, true, true, true, false, false, false, false, false, false, false, false]) _ rfl (by kernel_rfl) rfl rfl (Yl.loadBoxG ag25 rfl (by first | exact .own 0 rfl | exact .own 1 rfl | exact .own 2 rfl | exact .own 3 rfl | exact .own 4 rfl | exact .own 5 rfl | exact .own 6 rfl | exact .own 7 rfl | exact .own 8 rfl | exact .own 9 rfl | exact .own 10 rfl | exact .own 11 rfl | exact .own 12 rfl | assumption | exact BoxS.arg (by assumption)) rfl rfl) ⟨_, rfl, rfl⟩ rfl ?_
                  refine HeldK.first 16 (fuel := 7) (listed' := #[true, true, true, true, true, true, true, true, true, true, true, true, true, true, true, true, true, false, false, false, false, false, false, false]) _ rfl (by kernel_rfl) rfl rfl (Yl.move rfl) ⟨_, rfl, rfl⟩ rfl ?_
                  refine HeldK.first 18 (fuel := 6) (listed' := #[true, true, true, true, true, true, true, true, true, true, true, true, true, true, true, true, true, false, true, false, false, false, false, false]) _ rfl (by kernel_rfl) rfl rfl (Yl.move rfl) ⟨_, rfl, rfl⟩ rfl ?_
                  refine HeldK.first 19 (fuel := 5) (listed' := #[true, true, true, true, true, true, true, true, true, true, true, true, true, true, true, true, true, false, true, true, false, false, false, false]) _ rfl (by kernel_rfl) rfl rfl (Yl.move rfl) ⟨_, rfl, rfl⟩ rfl ?_
                  first | refine HeldK.first 20 (fuel := 4) (listed' := #[true, true, true, true, true, true, true, true, true, true, true, true, true, true, true, true, true, false, true, true, true, false, false, false]) _ rfl (by kernel_rfl) rfl rfl (Yl.idxN sl38 rfl rfl (by first | exact .arg ‹_› | exact .own 0 rfl | exact .own 1 rfl | exact .own 2 rfl | exact .own 3 rfl | exact .own 4 rfl | exact .own 5 rfl | exact .own 6 rfl | exact .own 7 rfl | exact .own 8 rfl | assumption | exact .own 9 rfl | exact .own 10 rfl | exact .own 11 rfl | exact .own 12 rfl) (by decide) (by omega)) ⟨_, rfl, rfl⟩ rfl ?_ | refine HeldK.first 20 (fuel := 4) (listed' := #[true, true, true, true, true, true, true, true, true, true, true, true, true, true, true, true, true, false, true, true, true, false, false, false]) _ rfl (by kernel_rfl) rfl rfl (Yl.idx sl38 rfl rfl (by first | exact .arg ‹_› | exact .own 0 rfl | exact .own 1 rfl | exact .own 2 rfl | exact .own 3 rfl | exact .own 4 rfl | exact .own 5 rfl | exact .own 6 rfl | exact .own 7 rfl | exact .own 8 rfl | assumption | exact .own 9 rfl | exact .own 10 rfl | exact .own 11 rfl | exact .own 12 rfl) (by decide) (by omega)) ⟨_, rfl, rfl⟩ rfl ?_ | refine HeldK.first 20 (fuel := 4) (listed' := #[true, true, true, true, true, true, true, true, true, true, true, true, true, true, true, true, true, false, true, true, true, false, false, false]) _ rfl (by kernel_rfl) rfl rfl (Yl.idxK sl38 rfl rfl (by first | exact .arg ‹_› | exact .own 0 rfl | exact .own 1 rfl | exact .own 2 rfl | exact .own 3 rfl | exact .own 4 rfl | exact .own 5 rfl | exact .own 6 rfl | exact .own 7 rfl | exact .own 8 rfl | assumption | exact .own 9 rfl | exact .own 10 rfl | exact .own 11 rfl | exact .own 12 rfl) (by decide) (by omega)) ⟨_, rfl, rfl⟩ rfl ?_
                  refine HeldK.first 21 (fuel := 3) (listed' := #[true, true, true, true, true, true, true, true, true, true, true, true, true, true, true, true, true, false, true, true, true, true, false, false]) _ rfl (by kernel_rfl) rfl rfl (Yl.loadI on3 rfl (by first | exact .arg ‹_› | exact .own 0 rfl | exact .own 1 rfl | exact .own 2 rfl | exact .own 3 rfl | exact .own 4 rfl | exact .own 5 rfl | exact .own 6 rfl | exact .own 7 rfl | exact .own 8 rfl | assumption | exact .own 9 rfl | exact .own 10 rfl | exact .own 11 rfl | exact .own 12 rfl) (by omega)) ⟨_, rfl, rfl⟩ rfl ?_
                  refine HeldK.one 17 (fuel := 2) (listed' := #[true, true, true, true, true, true, true, true, true, true, true, true, true, true, true, true, true, true, true, true, true, true, false, false]) (by kernel_rfl) rfl rfl ?_
                  refine AK.call co22 rfl (fun w hw => s_count w _ d (h0.at hw) (k : Int)) ⟨_, rfl, rfl⟩ rfl ?_
                  rintro r o ⟨rfl, rfl⟩
                  refine AK.nil ?_
                  try (conv => enter [2, 2]; dsimp only [List.set_cons_zero, List.set_cons_succ, List.cons_append, List.nil_append])
                  refine HeldK.back (by repeat (first | exact HWle.nil | refine HWle.cons Ale.rfl ?_ | refine HWle.cons Ale.fst ?_)) ?_
                  refine HeldK.first 22 (fuel := 1) (listed' := #[true, true, true, true, true, true, true, true, true, true, true, true, true, true, true, true, true, true, true, true, true, true, true, false]) _ rfl (by kernel_rfl) rfl rfl (Yl.neq rfl rfl) ⟨_, rfl, rfl⟩ rfl ?_
                  refine HeldK.first 23 (fuel := 0) (listed' := #[true, true, true, true, true, true, true, true, true, true, true, true, true, true, true, true, true, true, true, true, true, true, true, true]) _ rfl (by kernel_rfl) rfl rfl (Yl.pickT rfl (rfl) rfl) trivial rfl ?_
                  refine HeldK.done (by kernel_rfl) ?_
                  refine AK.then_ (hK79 _ ?_)
                  refine AK.condNe rfl (fun hc6 => ?_) (fun hc6 => ?_)
                  · refine AK.seq (fun _ hK80 => ?_)
                    refine AK.region ?_
                    refine AK.val _ (Yl.assign rfl) trivial rfl ?_
                    refine AK.nil ?_
                    refine AK.then_ (hK80 _ ?_)
                    refine AK.ret ?_
                    refine AK.block_ret ?_
                    refine AK.then_ret ?_
                    refine AK.then_ret ?_
                    refine AK.block_ret ?_
                    refine AK.then_ret ?_
                    refine AK.ret1 rfl rfl (fun w hw => ⟨_, _, ?_, rfl, Ret.of (hw.pick [] (by decide) rfl rfl)⟩)
                    exfalso
                    refine hc6 ?_
                    rw [cntL_get _ _ (by omega), htk]
                    have ec : (WordsV d 40).length < 40 ∨ k < ((WordsV d 40).getD ((WordsV d 40).length - 1) []).length → (((WordsV d 40).countP (ofL k) : Nat) : Int) = CountV d k := fun h => en_count hv (n := 40) (by omega) (by omega) h
                    exact (ec (by first | exact .inl (by omega) | exact .inr (by rw [← en_last]; omega))).symm
                  · refine AK.skip ?_
                    refine AK.block_normal ?_
                    refine AK.then_ (hK77 _ ?_)
                    refine AK.region ?_
                    refine AK.val _ (Yl.add rfl rfl (by omega)) trivial rfl ?_
                    refine AK.val _ (Yl.move rfl) trivial rfl ?_
                    refine AK.nil ?_
                    refine AK.then_ (hK74 _ _ (k + 1) (by omega) (by omega) (.cons (rfl) (.cons rfl (.cons rfl (.cons rfl (.cons rfl (.nil)))))) (fun w hw => hw))
                · have hg_20_3' := hg_20_3
                  try simp only [decide_eq_true_eq, decide_eq_false_iff_not, Bool.not_eq_true', Bool.not_eq_false', Bool.not_not, ne_eq, Decidable.not_not, Int.not_lt, Int.not_le, beq_iff_eq, bne_iff_ne, Bool.and_eq_true, Bool.or_eq_true, Bool.or_eq_false_iff, Bool.not_false, Bool.not_true, reduceCtorEq, not_true_eq_false, not_false_eq_true] at hg_20_3'
                  refine HeldK.first 4 (fuel := 19) (listed' := #[true, true, true, true, true, false, false, false, false, false, false, false, false, false, false, false, false, false, false, false, false, false, false, false]) _ rfl (by kernel_rfl) rfl rfl (Yl.move rfl) ⟨_, rfl, congrArg (fun b => some (Value.bool b)) hg_20_3⟩ rfl ?_
                  refine HeldK.first 5 (fuel := 18) (listed' := #[true, true, true, true, true, true, false, false, false, false, false, false, false, false, false, false, false, false, false, false, false, false, false, false]) _ rfl (by kernel_rfl) rfl rfl (Yl.move rfl) ⟨_, rfl, congrArg (fun b => some (Value.bool b)) hg_20_3⟩ rfl ?_
                  refine HeldK.first 6 (fuel := 17) (listed' := #[true, true, true, true, true, true, true, false, false, false, false, false, false, false, false, false, false, false, false, false, false, false, false, false]) _ rfl (by kernel_rfl) rfl rfl (Yl.lenR sl30 rfl (by first | exact .arg ‹_› | exact .own 0 rfl | exact .own 1 rfl | exact .own 2 rfl | exact .own 3 rfl | exact .own 4 rfl | exact .own 5 rfl | exact .own 6 rfl | exact .own 7 rfl | exact .own 8 rfl | assumption | exact .own 9 rfl | exact .own 10 rfl | exact .own 11 rfl | exact .own 12 rfl)) ⟨_, rfl, congrArg (fun b => some (Value.bool b)) hg_20_3⟩ rfl ?_
                  refine HeldK.first 7 (fuel := 16) (listed' := #[true, true, true, true, true, true, true, true, false, false, false, false, false, false, false, false, false, false, false, false, false, false, false, false]) _ rfl (by kernel_rfl) rfl rfl (Yl.sub rfl rfl (by omega)) ⟨_, rfl, congrArg (fun b => some (Value.bool b)) hg_20_3⟩ rfl ?_
                  first | refine HeldK.first 8 (fuel := 15) (listed' := #[true, true, true, true, true, true, true, true, true, false, false, false, false, false, false, false, false, false, false, false, false, false, false, false]) _ rfl (by kernel_rfl) rfl rfl (Yl.idxN sl30 rfl rfl (by first | exact .arg ‹_› | exact .own 0 rfl | exact .own 1 rfl | exact .own 2 rfl | exact .own 3 rfl | exact .own 4 rfl | exact .own 5 rfl | exact .own 6 rfl | exact .own 7 rfl | exact .own 8 rfl | assumption | exact .own 9 rfl | exact .own 10 rfl | exact .own 11 rfl | exact .own 12 rfl) (by decide) (by omega)) ⟨_, rfl, congrArg (fun b => some (Value.bool b)) hg_20_3⟩ rfl ?_ | refine HeldK.first 8 (fuel := 15) (listed' := #[true, true, true, true, true, true, true, true, true, false, false, false, false, false, false, false, false, false, false, false, false, false, false, false]) _ rfl (by kernel_rfl) rfl rfl (Yl.idx sl30 rfl rfl (by first | exact .arg ‹_› | exact .own 0 rfl | exact .own 1 rfl | exact .own 2 rfl | exact .own 3 rfl | exact .own 4 rfl | exact .own 5 rfl | exact .own 6 rfl | exact .own 7 rfl | exact .own 8 rfl | assumption | exact .own 9 rfl | exact .own 10 rfl | exact .own 11 rfl | exact .own 12 rfl) (by decide) (by omega)) ⟨_, rfl, congrArg (fun b => some (Value.bool b)) hg_20_3⟩ rfl ?_ | refine HeldK.first 8 (fuel := 15) (listed' := #[true, true, true, true, true, true, true, true, true, false, false, false, false, false, false, false, false, false, false, false, false, false, false, false]) _ rfl (by kernel_rfl) rfl rfl (Yl.idxK sl30 rfl rfl (by first | exact .arg ‹_› | exact .own 0 rfl | exact .own 1 rfl | exact .own 2 rfl | exact .own 3 rfl | exact .own 4 rfl | exact .own 5 rfl | exact .own 6 rfl | exact .own 7 rfl | exact .own 8 rfl | assumption | exact .own 9 rfl | exact .own 10 rfl | exact .own 11 rfl | exact .own 12 rfl) (by decide) (by omega)) ⟨_, rfl, congrArg (fun b => some (Value.bool b)) hg_20_3⟩ rfl ?_
                  refine HeldK.first 9 (fuel := 14) (listed' := #[true, true, true, true, true, true, true, true, true, true, false, false, false, false, false, false, false, false, false, false, false, false, false, false]) _ rfl (by kernel_rfl) rfl rfl (Yl.loadS on9 rfl (by first | exact .arg ‹_› | exact .own 0 rfl | exact .own 1 rfl | exact .own 2 rfl | exact .own 3 rfl | exact .own 4 rfl | exact .own 5 rfl | exact .own 6 rfl | exact .own 7 rfl | exact .own 8 rfl | assumption | exact .own 9 rfl | exact .own 10 rfl | exact .own 11 rfl | exact .own 12 rfl) (by omega)) ⟨_, rfl, congrArg (fun b => some (Value.bool b)) hg_20_3⟩ rfl ?_
                  refine HeldK.first 10 (fuel := 13) (listed' := #[true, true, true, true, true, true, true, true, true, true, true, false, false, false, false, false, false, false, false, false, false, false, false, false]) _ rfl (by kernel_rfl) rfl rfl (Yl.lenS un9 rfl) ⟨_, rfl, congrArg (fun b => some (Value.bool b)) hg_20_3⟩ rfl ?_
                  refine HeldK.first 11 (fuel := 12) (listed' := #[true, true, true, true, true, true, true, true, true, true, true, true, false, false, false, false, false, false, false, false, false, false, false, false]) _ rfl (by kernel_rfl) rfl rfl (Yl.move rfl) ⟨_, rfl, congrArg (fun b => some (Value.bool b)) hg_20_3⟩ rfl ?_
                  refine HeldK.first 12 (fuel := 11) (listed' := #[true, true, true, true, true, true, true, true, true, true, true, true, true, false, false, false, false, false, false, false, false, false, false, false]) _ rfl (by kernel_rfl) rfl rfl (Yl.gtr rfl rfl) ⟨_, rfl, congrArg (fun b => some (Value.bool b)) hg_20_3⟩ rfl ?_
                  refine HeldK.first 13 (fuel := 10) (listed' := #[true, true, true, true, true, true, true, true, true, true, true, true, true, true, false, false, false, false, false, false, false, false, false, false]) _ rfl (by kernel_rfl) rfl rfl (Yl.pickF rfl (hg_20_3) rfl) trivial rfl ?_
                  refine HeldK.first 14 (fuel := 9) (listed' := #[true, true, true, true, true, true, true, true, true, true, true, true, true, true, true, false, false, false, false, false, false, false, false, false]) _ rfl (by kernel_rfl) rfl rfl (Yl.move rfl) trivial rfl ?_
                  refine AK.splitB (g := 114) rfl (fun hg_20_14 => ?_) (fun hg_20_14 => ?_)
                  · have hg_20_14' := hg_20_14
                    try simp only [decide_eq_true_eq, decide_eq_false_iff_not, Bool.not_eq_true', Bool.not_eq_false', Bool.not_not, ne_eq, Decidable.not_not, Int.not_lt, Int.not_le, beq_iff_eq, bne_iff_ne, Bool.and_eq_true, Bool.or_eq_true, Bool.or_eq_false_iff, Bool.not_false, Bool.not_true, reduceCtorEq, not_true_eq_false, not_false_eq_true] at hg_20_14'
                    refine HeldK.first 15 (fuel := 8) (listed' := #[true, true, true, true, true, true, true, true, true, true, true, true, true, true, true, true, false, false, false, false, false, false, false, false]) _ rfl (by kernel_rfl) rfl rfl (Yl.loadBoxG ag25 rfl (by first | exact .own 0 rfl | exact .own 1 rfl | exact .own 2 rfl | exact .own 3 rfl | exact .own 4 rfl | exact .own 5 rfl | exact .own 6 rfl | exact .own 7 rfl | exact .own 8 rfl | exact .own 9 rfl | exact .own 10 rfl | exact .own 11 rfl | exact .own 12 rfl | assumption | exact BoxS.arg (by assumption)) rfl rfl) ⟨_, rfl, congrArg (fun b => some (Value.bool b)) hg_20_14⟩ rfl ?_
                    refine HeldK.first 16 (fuel := 7) (listed' := #[true, true, true, true, true, true, true, true, true, true, true, true, true, true, true, true, true, false, false, false, false, false, false, false]) _ rfl (by kernel_rfl) rfl rfl (Yl.move rfl) ⟨_, rfl, congrArg (fun b => some (Value.bool b)) hg_20_14⟩ rfl ?_
                    refine HeldK.first 18 (fuel := 6) (listed' := #[true, true, true, true, true, true, true, true, true, true, true, true, true, true, true, true, true, false, true, false, false, false, false, false]) _ rfl (by kernel_rfl) rfl rfl (Yl.move rfl) ⟨_, rfl, congrArg (fun b => some (Value.bool b)) hg_20_14⟩ rfl ?_
                    refine HeldK.first 19 (fuel := 5) (listed' := #[true, true, true, true, true, true, true, true, true, true, true, true, true, true, true, true, true, false, true, true, false, false, false, false]) _ rfl (by kernel_rfl) rfl rfl (Yl.move rfl) ⟨_, rfl, congrArg (fun b => some (Value.bool b)) hg_20_14⟩ rfl ?_
                    first | refine HeldK.first 20 (fuel := 4) (listed' := #[true, true, true, true, true, true, true, true, true, true, true, true, true, true, true, true, true, false, true, true, true, false, false, false]) _ rfl (by kernel_rfl) rfl rfl (Yl.idxN sl38 rfl rfl (by first | exact .arg ‹_› | exact .own 0 rfl | exact .own 1 rfl | exact .own 2 rfl | exact .own 3 rfl | exact .own 4 rfl | exact .own 5 rfl | exact .own 6 rfl | exact .own 7 rfl | exact .own 8 rfl | assumption | exact .own 9 rfl | exact .own 10 rfl | exact .own 11 rfl | exact .own 12 rfl) (by decide) (by omega)) ⟨_, rfl, congrArg (fun b => some (Value.bool b)) hg_20_14⟩ rfl ?_ | refine HeldK.first 20 (fuel := 4) (listed' := #[true, true, true, true, true, true, true, true, true, true, true, true, true, true, true, true, true, false, true, true, true, false, false, false]) _ rfl (by kernel_rfl) rfl rfl (Yl.idx sl38 rfl rfl (by first | exact .arg ‹_› | exact .own 0 rfl | exact .own 1 rfl | exact .own 2 rfl | exact .own 3 rfl | exact .own 4 rfl | exact .own 5 rfl | exact .own 6 rfl | exact .own 7 rfl | exact .own 8 rfl | assumption | exact .own 9 rfl | exact .own 10 rfl | exact .own 11 rfl | exact .own 12 rfl) (by decide) (by omega)) ⟨_, rfl, congrArg (fun b => some (Value.bool b)) hg_20_14⟩ rfl ?_ | refine HeldK.first 20 (fuel := 4) (listed' := #[true, true, true, true, true, true, true, true, true, true, true, true, true, true, true, true, true, false, true, true, true, false, false, false]) _ rfl (by kernel_rfl) rfl rfl (Yl.idxK sl38 rfl rfl (by first | exact .arg ‹_› | exact .own 0 rfl | exact .own 1 rfl | exact .own 2 rfl | exact .own 3 rfl | exact .own 4 rfl | exact .own 5 rfl | exact .own 6 rfl | exact .own 7 rfl | exact .own 8 rfl | assumption | exact .own 9 rfl | exact .own 10 rfl | exact .own 11 rfl | exact .own 12 rfl) (by decide) (by omega)) ⟨_, rfl, congrArg (fun b => some (Value.bool b)) hg_20_14⟩ rfl ?_
                    refine HeldK.first 21 (fuel := 3) (listed' := #[true, true, true, true, true, true, true, true, true, true, true, true, true, true, true, true, true, false, true, true, true, true, false, false]) _ rfl (by kernel_rfl) rfl rfl (Yl.loadI on3 rfl (by first | exact .arg ‹_› | exact .own 0 rfl | exact .own 1 rfl | exact .own 2 rfl | exact .own 3 rfl | exact .own 4 rfl | exact .own 5 rfl | exact .own 6 rfl | exact .own 7 rfl | exact .own 8 rfl | assumption | exact .own 9 rfl | exact .own 10 rfl | exact .own 11 rfl | exact .own 12 rfl) (by omega)) ⟨_, rfl, congrArg (fun b => some (Value.bool b)) hg_20_14⟩ rfl ?_
                    refine HeldK.one 17 (fuel := 2) (listed' := #[true, true, true, true, true, true, true, true, true, true, true, true, true, true, true, true, true, true, true, true, true, true, false, false]) (by kernel_rfl) rfl rfl ?_
                    refine AK.call co22 rfl (fun w hw => s_count w _ d (h0.at hw) (k : Int)) ⟨_, rfl, congrArg (fun b => some (Value.bool b)) hg_20_14⟩ rfl ?_
                    rintro r o ⟨rfl, rfl⟩
                    refine AK.nil ?_
                    try (conv => enter [2, 2]; dsimp only [List.set_cons_zero, List.set_cons_succ, List.cons_append, List.nil_append])
                    refine HeldK.back (by repeat (first | exact HWle.nil | refine HWle.cons Ale.rfl ?_ | refine HWle.cons Ale.fst ?_)) ?_
                    refine HeldK.first 22 (fuel := 1) (listed' := #[true, true, true, true, true, true, true, true, true, true, true, true, true, true, true, true, true, true, true, true, true, true, true, false]) _ rfl (by kernel_rfl) rfl rfl (Yl.neq rfl rfl) ⟨_, rfl, congrArg (fun b => some (Value.bool b)) hg_20_14⟩ rfl ?_
                    refine HeldK.first 23 (fuel := 0) (listed' := #[true, true, true, true, true, true, true, true, true, true, true, true, true, true, true, true, true, true, true, true, true, true, true, true]) _ rfl (by kernel_rfl) rfl rfl (Yl.pickT rfl (hg_20_14) rfl) trivial rfl ?_
                    refine HeldK.done (by kernel_rfl) ?_
                    refine AK.then_ (hK79 _ ?_)
                    refine AK.condNe rfl (fun hc6 => ?_) (fun hc6 => ?_)
                    · refine AK.seq (fun _ hK81 => ?_)
                      refine AK.region ?_
                      refine AK.val _ (Yl.assign rfl) trivial rfl ?_
                      refine AK.nil ?_
                      refine AK.then_ (hK81 _ ?_)
                      refine AK.ret ?_
                      refine AK.block_ret ?_
                      refine AK.then_ret ?_
                      refine AK.then_ret ?_
                      refine AK.block_ret ?_
                      refine AK.then_ret ?_
                      refine AK.ret1 rfl rfl (fun w hw => ⟨_, _, ?_, rfl, Ret.of (hw.pick [] (by decide) rfl rfl)⟩)
                      exfalso
                      refine hc6 ?_
                      rw [cntL_get _ _ (by omega), htk]
                      have ec : (WordsV d 40).length < 40 ∨ k < ((WordsV d 40).getD ((WordsV d 40).length - 1) []).length → (((WordsV d 40).countP (ofL k) : Nat) : Int) = CountV d k := fun h => en_count hv (n := 40) (by omega) (by omega) h
                      exact (ec (by first | exact .inl (by omega) | exact .inr (by rw [← en_last]; omega))).symm
                    · refine AK.skip ?_
                      refine AK.block_normal ?_
                      refine AK.then_ (hK77 _ ?_)
                      refine AK.region ?_
                      refine AK.val _ (Yl.add rfl rfl (by omega)) trivial rfl ?_
                      refine AK.val _ (Yl.move rfl) trivial rfl ?_
                      refine AK.nil ?_
                      refine AK.then_ (hK74 _ _ (k + 1) (by omega) (by omega) (.cons (rfl) (.cons rfl (.cons rfl (.cons rfl (.cons rfl (.nil)))))) (fun w hw => hw))
                  · have hg_20_14' := hg_20_14
                    try simp only [decide_eq_true_eq, decide_eq_false_iff_not, Bool.not_eq_true', Bool.not_eq_false', Bool.not_not, ne_eq, Decidable.not_not, Int.not_lt, Int.not_le, beq_iff_eq, bne_iff_ne, Bool.and_eq_true, Bool.or_eq_true, Bool.or_eq_false_iff, Bool.not_false, Bool.not_true, reduceCtorEq, not_true_eq_false, not_false_eq_true] at hg_20_14'
                    refine HeldK.pass 15 (fuel := 8) (listed' := #[true, true, true, true, true, true, true, true, true, true, true, true, true, true, true, true, false, false, false, false, false, false, false, false]) rfl (by kernel_rfl) rfl rfl rfl (hg_20_14) rfl ?_
                    refine HeldK.pass 16 (fuel := 7) (listed' := #[true, true, true, true, true, true, true, true, true, true, true, true, true, true, true, true, true, false, false, false, false, false, false, false]) rfl (by kernel_rfl) rfl rfl rfl (hg_20_14) rfl ?_
                    refine HeldK.pass 18 (fuel := 6) (listed' := #[true, true, true, true, true, true, true, true, true, true, true, true, true, true, true, true, true, false, true, false, false, false, false, false]) rfl (by kernel_rfl) rfl rfl rfl (hg_20_14) rfl ?_
                    refine HeldK.pass 19 (fuel := 5) (listed' := #[true, true, true, true, true, true, true, true, true, true, true, true, true, true, true, true, true, false, true, true, false, false, false, false]) rfl (by kernel_rfl) rfl rfl rfl (hg_20_14) rfl ?_
                    refine HeldK.pass 20 (fuel := 4) (listed' := #[true, true, true, true, true, true, true, true, true, true, true, true, true, true, true, true, true, false, true, true, true, false, false, false]) rfl (by kernel_rfl) rfl rfl rfl (hg_20_14) rfl ?_
                    refine HeldK.pass 21 (fuel := 3) (listed' := #[true, true, true, true, true, true, true, true, true, true, true, true, true, true, true, true, true, false, true, true, true, true, false, false]) rfl (by kernel_rfl) rfl rfl rfl (hg_20_14) rfl ?_
                    refine HeldK.one 17 (fuel := 2) (listed' := #[true, true, true, true, true, true, true, true, true, true, true, true, true, true, true, true, true, true, true, true, true, true, false, false]) (by kernel_rfl) rfl rfl ?_
                    refine AK.pass rfl rfl (hg_20_14) rfl ?_
                    refine AK.nil ?_
                    try (conv => enter [2, 2]; dsimp only [List.set_cons_zero, List.set_cons_succ, List.cons_append, List.nil_append])
                    refine HeldK.back (by repeat (first | exact HWle.nil | refine HWle.cons Ale.rfl ?_ | refine HWle.cons Ale.fst ?_)) ?_
                    refine HeldK.pass 22 (fuel := 1) (listed' := #[true, true, true, true, true, true, true, true, true, true, true, true, true, true, true, true, true, true, true, true, true, true, true, false]) rfl (by kernel_rfl) rfl rfl rfl (hg_20_14) rfl ?_
                    refine HeldK.first 23 (fuel := 0) (listed' := #[true, true, true, true, true, true, true, true, true, true, true, true, true, true, true, true, true, true, true, true, true, true, true, true]) _ rfl (by kernel_rfl) rfl rfl (Yl.pickF rfl (hg_20_14) rfl) trivial rfl ?_
                    refine HeldK.done (by kernel_rfl) ?_
                    refine AK.then_ (hK79 _ ?_)
                    refine AK.cond_f rfl (rfl) ?_
                    refine AK.skip ?_
                    refine AK.block_normal ?_
                    refine AK.then_ (hK77 _ ?_)
                    refine AK.region ?_
                    refine AK.val _ (Yl.add rfl rfl (by omega)) trivial rfl ?_
                    refine AK.val _ (Yl.move rfl) trivial rfl ?_
                    refine AK.nil ?_
                    refine AK.then_ (hK74 _ _ (k + 1) (by omega) (by omega) (.cons (rfl) (.cons rfl (.cons rfl (.cons rfl (.cons rfl (.nil)))))) (fun w hw => hw))
              · refine AK.exit ?_
                refine AK.then_exit ?_
                refine AK.then_exit ?_
                refine AK.block_exit ?_
                refine AK.then_ (hK72 _ ?_)
                refine AK.seq (fun _ hK82 => ?_)
                refine AK.region ?_
                refine AK.call co17 rfl (fun w hw => s_awake w) trivial rfl ?_
                rintro r o ⟨rfl, rfl⟩
                refine AK.val _ (Yl.assign rfl) trivial rfl ?_
                refine AK.nil ?_
                refine AK.then_ (hK82 _ ?_)
                refine AK.ret ?_
                refine AK.ret1 rfl rfl (fun w hw => ⟨_, _, ?_, rfl, Ret.of (hw.pick [] (by decide) rfl rfl)⟩)
                exact ⟨rfl, rfl⟩

end Go.Proofs.Ytmfakjfkjoichaa
