import Derived.Test.YtoikhoniogicdaaEk
import Derived.Test.YtoikhoniogicdaaMf
import Derived.Test.YtoikhoniogicdaaMd
import Derived.Test.YtoikhoniogicdaaMh
import Derived.Test.YtoikhoniogicdaaE5
import Derived.Test.YtoikhoniogicdaaEf
import Derived.Test.YtoikhoniogicdaaD10
import Derived.Test.YtoikhoniogicdaaD17
set_option linter.unusedVariables false
set_option linter.unusedSimpArgs false
namespace Go.Proofs.Ytoikhoniogicdaa
open Go.Sx Go.RowKit
def halfB (P : Program) (kt : TypeId) : Bool := match P.underlying kt with
  | some (.struct fs) => match fs.toList with
    | [f0, f1] => (match P.underlying f0.type with | some (.int .i64) => true | _ => false) && (match P.underlying f1.type with | some .bool => true | _ => false) && f0.offset == 0 && f1.offset == 1 && f0.name != "_" && f1.name != "_" && !P.stoodInHeld kt
    | _ => false
  | _ => false
theorem keyHalf_of {P : Program} {kt : TypeId} (h : halfB P kt = true) : KeyL P kt hbv := by
  unfold halfB at h
  split at h
  case h_2 => cases h
  rename_i fs hu
  split at h
  case h_2 => cases h
  rename_i f0 f1 hf
  have e : fs = #[f0, f1] := Array.toList_inj.1 (by simpa using hf)
  subst e
  simp only [Bool.and_eq_true, beq_iff_eq, bne_iff_ne, Bool.not_eq_true'] at h
  obtain ⟨⟨⟨⟨⟨⟨h0, h1⟩, o0⟩, o1⟩, n0⟩, n1⟩, hp⟩ := h
  split at h0
  case h_2 => cases h0
  rename_i u0
  split at h1
  case h_2 => cases h1
  rename_i u1
  exact keyHalf hu u0 u1 o0 o1 n0 n1 hp
theorem kl95 : KeyL Try.prog 95 hbv := keyHalf_of (by kernel_rfl)
theorem Yl.loadHalf {C : Cx} {sl : List (Nat × Value)} {own : List Asn} {dst : Option Nat} {ty : TypeId} {pos : String} {aft : Array Edge} {g : Option (Nat × Bool)} {x : Operand} {t b : Nat} {p : Int × Bool} (ht : AggT C.P t 2) (hx : opv ⟨sl, own⟩ x = some (.pointer (some ⟨b, 0, none⟩))) (hb : BoxS C own b [.int .i64 p.1, .bool p.2]) :
    Yl C ⟨sl, own⟩ ⟨dst, .load t x, ty, pos, aft, g⟩ (hbv p) := Yl.loadBoxG (us := [.int .i64 p.1, .bool p.2]) ht hx hb rfl rfl
/-! the first state of each class -/
def fstI (cs : List Int) (k : Nat) : List Int := (fstK cs k).map fun (j : Nat) => (j : Int)
theorem fstI_len (cs : List Int) (k : Nat) : (fstI cs k).length = (fstK cs k).length := by simp [fstI]
theorem fstI_skip {cs : List Int} {k : Nat} (h : cs.getD k 0 < (fstI cs k).length) : fstI cs (k + 1) = fstI cs k := by rw [fstI_len] at h; unfold fstI; rw [fstK_skip h]
theorem fstI_new {cs : List Int} {k : Nat} (h : ¬ cs.getD k 0 < (fstI cs k).length) : fstI cs (k + 1) = fstI cs k ++ [(k : Int)] := by rw [fstI_len] at h; unfold fstI; rw [fstK_new h]; simp
theorem fstI_le {cs : List Int} (h : canN cs = cs) {k : Nat} (hk : k < cs.length) : cs.getD k 0 ≤ (fstI cs k).length ∧ 0 ≤ cs.getD k 0 := by rw [fstI_len]; exact fstK_le h hk
theorem fstI_bd (cs : List Int) (k : Nat) : (fstI cs k).length ≤ k := by rw [fstI_len]; exact fstK_bd cs k
theorem fstI_at {cs : List Int} (h : canN cs = cs) {k : Nat} (hk : k ≤ cs.length) {c : Nat} (hc : c < (fstI cs k).length) : 0 ≤ (fstI cs k).getD c 0 ∧ (fstI cs k).getD c 0 < k ∧ cs.getD ((fstI cs k).getD c 0).toNat 0 = (c : Int) := by
  rw [fstI_len] at hc
  have h1 := (fstK_ok h k hk).2 c hc
  have e : (fstI cs k).getD c 0 = (((fstK cs k).getD c 0 : Nat) : Int) := by simp [fstI, List.getD_eq_getElem?_getD, hc]
  rw [e, Int.toNat_natCast]
  exact ⟨by omega, by omega, h1.2⟩
theorem fstI_keep {cs : List Int} {k : Nat} {c : Nat} (hc : c < (fstI cs k).length) : (fstI cs (k + 1)).getD c 0 = (fstI cs k).getD c 0 ∧ c < (fstI cs (k + 1)).length := by
  by_cases h : cs.getD k 0 < (fstI cs k).length
  · rw [fstI_skip h]; exact ⟨rfl, hc⟩
  · rw [fstI_new h]; exact ⟨getD_app 0 hc, by rw [List.length_append]; omega⟩
theorem fstI_has {cs : List Int} (h : canN cs = cs) : ∀ k, k ≤ cs.length → ∀ p, p < k → (cs.getD p 0).toNat < (fstI cs k).length
  | 0, _, p, hp => by cases hp
  | k + 1, hk, p, hp => by
    have hle := fstI_le h (k := k) (by omega)
    rcases Nat.lt_or_eq_of_le (Nat.le_of_lt_succ hp) with h1 | rfl
    · exact (fstI_keep (fstI_has h k (by omega) p h1)).2
    · by_cases h2 : cs.getD p 0 < (fstI cs p).length
      · rw [fstI_skip h2]; omega
      · rw [fstI_new h2, List.length_append, List.length_cons, List.length_nil]; omega
set_option maxHeartbeats 600000 in
set_option maxRecDepth 100000 in
theorem s_split (w : World) (u v : Value) (cs : List Int) (rr : List Bool) (hu : RdL (fun _ => False) (Value.int .i64) w u cs) (hv : RdL (fun _ => False) Value.bool w v rr) (hl : rr.length = cs.length) (hb0 : cs.length ≤ 100000) : CallS Try.prog 55 [u, v] w (fun r o => IsSl r ∧ o = [row r 3 1 cs.length ((spl cs rr).map (Value.int .i64))]) := by
  have hb := hu.le
  unfold RdL at hu hv
  have hzl : (cs.zip rr).length = cs.length := by rw [List.length_zip, hl, Nat.min_self]
  refine spec_of Try.func55 rfl (Nat.le_of_ble_eq_true rfl) ?_
  refine AK.seq (fun _ hK1 => ?_)
  refine AK.region ?_
  refine AK.val _ (Yl.assign rfl) trivial rfl ?_
  refine AK.nil ?_
  refine AK.then_ (hK1 _ ?_)
  refine AK.seq (fun _ hK2 => ?_)
  refine AK.region ?_
  refine AK.makeMap trivial rfl (fun mb => ?_)
  refine AK.val _ (Yl.assign rfl) trivial rfl ?_
  refine AK.nil ?_
  refine AK.then_ (hK2 _ ?_)
  refine AK.seq (fun _ hK3 => ?_)
  refine AK.region ?_
  refine AK.val _ (Yl.move rfl) trivial rfl ?_
  refine AK.val _ (Yl.lenR sl26 rfl (by first | exact .arg ‹_› | ((repeat (first | exact .hd | apply RdS.tl)); done) | assumption)) trivial rfl ?_
  refine AK.make1 (n := cs.length) sl26 el3 rfl rfl rfl (by omega) (by omega) trivial rfl (fun mv => ?_)
  refine AK.shape 1 rfl (fun smv => ?_)
  refine AK.val _ (Yl.assign rfl) trivial rfl ?_
  refine AK.nil ?_
  refine AK.then_ (hK3 _ ?_)
  refine AK.seq (fun _ hK4 => ?_)
  refine AK.seq (fun _ hK5 => ?_)
  refine AK.region ?_
  refine AK.val _ (Yl.move rfl) trivial rfl ?_
  refine AK.val _ (Yl.lenR sl26 rfl (by first | exact .arg ‹_› | ((repeat (first | exact .hd | apply RdS.tl)); done) | assumption)) trivial rfl ?_
  refine AK.val _ (Yl.move rfl) trivial rfl ?_
  refine AK.nil ?_
  refine AK.then_ (hK5 _ ?_)
  refine AK.block ?_
  refine AK.loopK (X := Nat) [(1, _), (5, _), (6, _), (16, _), (17, _)] (fun k => [(18, .int .i64 (k : Int))]) (fun k => [mapA mb (mkv hbv (Value.int .i64) (numM (ded ((cs.zip rr).take k)))), row mv 3 1 cs.length ((canN ((cs.zip rr).take k) ++ List.replicate (cs.length - k) 0).map (Value.int .i64))]) (fun k => k ≤ cs.length) (fun k => cs.length - k) (0) (.cons rfl (.cons rfl (.cons rfl (.cons rfl (.cons rfl (.nil)))))) ?_ ?_ ?_ ?_
  · exact Nat.zero_le _
  · exact .cons (rfl) (.nil)
  · exact fun w hw => by have e : ((canN ((cs.zip rr).take 0) ++ List.replicate (cs.length - 0) 0).map (Value.int .i64)) = List.replicate cs.length (Value.int .i64 0) := (by simp [canN]); rw [e]; exact hw
  · intro k hg0 _ hK6
    refine AK.seq (fun _ hK7 => ?_)
    refine AK.region ?_
    refine AK.val _ (Yl.lss rfl rfl) trivial rfl ?_
    refine AK.nil ?_
    refine AK.then_ (hK7 _ ?_)
    refine AK.seq (fun _ hK8 => ?_)
    refine AK.condD rfl (fun hc0 => ?_) (fun hc0 => ?_)
    · have hdl := ded_le ((cs.zip rr).take k)
      rw [List.length_take] at hdl
      have hnl := numM_len (ded ((cs.zip rr).take k))
      have hz := zip_get (cs := cs) (row := rr) (i := k) (by omega) (by omega)
      refine AK.skip ?_
      refine AK.then_ (hK8 _ ?_)
      refine AK.seq (fun _ hK9 => ?_)
      refine AK.block ?_
      refine AK.seq (fun _ hK10 => ?_)
      refine AK.region ?_
      refine AK.val _ (Yl.move rfl) trivial rfl ?_
      first | refine AK.val _ (Yl.idxN sl26 rfl rfl (by first | exact .arg ‹_› | ((repeat (first | exact .hd | apply RdS.tl)); done) | assumption) (by decide) (by omega)) trivial rfl ?_ | refine AK.val _ (Yl.idx sl26 rfl rfl (by first | exact .arg ‹_› | ((repeat (first | exact .hd | apply RdS.tl)); done) | assumption) (by decide) (by omega)) trivial rfl ?_ | refine AK.val _ (Yl.idxK sl26 rfl rfl (by first | exact .arg ‹_› | ((repeat (first | exact .hd | apply RdS.tl)); done) | assumption) (by decide) (by omega)) trivial rfl ?_
      refine AK.val _ (Yl.loadI on3 rfl (by first | exact .arg ‹_› | ((repeat (first | exact .hd | apply RdS.tl)); done) | assumption) (by omega)) trivial rfl ?_
      refine AK.val _ (Yl.assign rfl) trivial rfl ?_
      refine AK.val _ (Yl.assign rfl) trivial rfl ?_
      refine AK.nil ?_
      refine AK.then_ (hK10 _ ?_)
      refine AK.seq (fun _ hK11 => ?_)
      refine AK.region ?_
      refine AK.val _ (Yl.move rfl) trivial rfl ?_
      refine AK.val _ (Yl.move rfl) trivial rfl ?_
      refine AK.val _ (Yl.move rfl) trivial rfl ?_
      first | refine AK.val _ (Yl.idxN sl22 rfl rfl (by first | exact .arg ‹_› | ((repeat (first | exact .hd | apply RdS.tl)); done) | assumption) (by decide) (by omega)) trivial rfl ?_ | refine AK.val _ (Yl.idx sl22 rfl rfl (by first | exact .arg ‹_› | ((repeat (first | exact .hd | apply RdS.tl)); done) | assumption) (by decide) (by omega)) trivial rfl ?_ | refine AK.val _ (Yl.idxK sl22 rfl rfl (by first | exact .arg ‹_› | ((repeat (first | exact .hd | apply RdS.tl)); done) | assumption) (by decide) (by omega)) trivial rfl ?_
      refine AK.val _ (Yl.loadB on4 rfl (by first | exact .arg ‹_› | ((repeat (first | exact .hd | apply RdS.tl)); done) | assumption) (by omega)) trivial rfl ?_
      refine AK.val _ (Yl.build (parts := [(0, .tmp 23), (1, .tmp 27)]) (cs := #[.int .i64 (cs.getD k 0), .bool (rr.getD k false)]) rfl (by kernel_rfl)) trivial rfl ?_
      refine AK.alloc el95 rfl rfl trivial rfl (fun bx9 => ?_)
      refine AK.storeBox 2 (us := [.int .i64 (cs.getD k 0), .bool (rr.getD k false)]) (cs' := [.int .i64 (cs.getD k 0), .bool (rr.getD k false)]) rfl sz95 rfl rfl rfl rfl (by repeat (first | exact one'_nil | refine one'_cons (by first | rfl | exact IsSl.one (by assumption) | exact IsSl.one nilSl) ?_)) (Nat.le_of_ble_eq_true rfl) rfl trivial ?_
      refine AK.nil ?_
      refine AK.then_ (hK11 _ ?_)
      refine AK.seq (fun _ hK12 => ?_)
      refine AK.region ?_
      refine AK.val _ (Yl.move rfl) trivial rfl ?_
      first | refine AK.val (hbv ((cs.zip rr).getD k (0, false))) (Yl.loadHalf ag95 rfl (by rw [hz]; exact BoxS.own 2 rfl)) trivial rfl ?_
      refine AK.val _ (Yl.lookup2I mp93 kl95 el3 rfl rfl (by first | ((repeat (first | exact .hd | apply BoxS.tl | apply MapS.tl)); done) | assumption | exact BoxS.arg (by assumption))) trivial rfl ?_
      refine AK.val _ (Yl.move rfl) trivial rfl ?_
      refine AK.val _ (Yl.extract rfl rfl) trivial rfl ?_
      refine AK.val _ (Yl.extract rfl rfl) trivial rfl ?_
      refine AK.val _ (Yl.assign rfl) trivial rfl ?_
      refine AK.val _ (Yl.assign rfl) trivial rfl ?_
      refine AK.nil ?_
      refine AK.then_ (hK12 _ ?_)
      refine AK.seq (fun _ hK13 => ?_)
      refine AK.seq (fun _ hK14 => ?_)
      refine AK.region ?_
      refine AK.val _ (Yl.move rfl) trivial rfl ?_
      refine AK.val _ (Yl.not rfl) trivial rfl ?_
      refine AK.nil ?_
      refine AK.then_ (hK14 _ ?_)
      refine AK.condB rfl (fun hc1 => ?_) (fun hc1 => ?_)
      · obtain ⟨hx, hcv⟩ := num_new hc1
        refine AK.seq (fun _ hK15 => ?_)
        refine AK.region ?_
        refine AK.val _ (Yl.move rfl) trivial rfl ?_
        refine AK.val _ (Yl.lenM mp93 rfl (by first | ((repeat (first | exact .hd | apply BoxS.tl | apply MapS.tl)); done) | assumption | exact BoxS.arg (by assumption))) trivial rfl ?_
        refine AK.val _ (Yl.assign rfl) trivial rfl ?_
        refine AK.nil ?_
        refine AK.then_ (hK15 _ ?_)
        refine AK.region ?_
        refine AK.val _ (Yl.move rfl) trivial rfl ?_
        first | refine AK.val (hbv ((cs.zip rr).getD k (0, false))) (Yl.loadHalf ag95 rfl (by rw [hz]; exact BoxS.own 2 rfl)) trivial rfl ?_
        refine AK.val _ (Yl.move rfl) trivial rfl ?_
        refine AK.mapSet 0 rfl mp93 kl95 rfl rfl rfl trivial ?_
        refine AK.nil ?_
        refine AK.then_ (hK13 _ ?_)
        refine AK.region ?_
        refine AK.val _ (Yl.move rfl) trivial rfl ?_
        refine AK.val _ (Yl.move rfl) trivial rfl ?_
        refine AK.val _ (Yl.move rfl) trivial rfl ?_
        first | refine AK.val _ (Yl.idxN sl26 rfl rfl (by first | exact .arg ‹_› | ((repeat (first | exact .hd | apply RdS.tl)); done) | assumption) (by decide) (by omega)) trivial rfl ?_ | refine AK.val _ (Yl.idx sl26 rfl rfl (by first | exact .arg ‹_› | ((repeat (first | exact .hd | apply RdS.tl)); done) | assumption) (by decide) (by omega)) trivial rfl ?_ | refine AK.val _ (Yl.idxK sl26 rfl rfl (by first | exact .arg ‹_› | ((repeat (first | exact .hd | apply RdS.tl)); done) | assumption) (by decide) (by omega)) trivial rfl ?_
        refine AK.store1e 1 rfl sz3 rfl rfl rfl rfl (by omega) (cs' := ((canN ((cs.zip rr).take (k + 1)) ++ List.replicate (cs.length - (k + 1)) 0).map (Value.int .i64))) (by exact can_fill (0, false) hzl (by omega) hcv) trivial ?_
        refine AK.nil ?_
        refine AK.block_normal ?_
        refine AK.then_ (hK9 _ ?_)
        refine AK.region ?_
        refine AK.val _ (Yl.add rfl rfl (by omega)) trivial rfl ?_
        refine AK.val _ (Yl.move rfl) trivial rfl ?_
        refine AK.nil ?_
        first | refine AK.then_ (hK6 _ _ (k + 1) (by omega) (by omega) (.cons (rfl) (.cons rfl (.cons rfl (.cons rfl (.cons rfl (.cons rfl (.nil))))))) (fun w hw => by rw [← ded_new (0, false) (by omega) hx]; exact hw.pick [0, 1] (by decide) rfl rfl)) | refine AK.then_ (hK6 _ _ (k + 1) (by omega) (by omega) (.cons (rfl) (.cons rfl (.cons rfl (.cons rfl (.cons rfl (.cons rfl (.nil))))))) (fun w hw => by rw [ded_old (0, false) (by omega) (by assumption)]; exact hw.pick [0, 1] (by decide) rfl rfl))
      · obtain ⟨hx, hcv⟩ := num_old hc1
        refine AK.skip ?_
        refine AK.then_ (hK13 _ ?_)
        refine AK.region ?_
        refine AK.val _ (Yl.move rfl) trivial rfl ?_
        refine AK.val _ (Yl.move rfl) trivial rfl ?_
        refine AK.val _ (Yl.move rfl) trivial rfl ?_
        first | refine AK.val _ (Yl.idxN sl26 rfl rfl (by first | exact .arg ‹_› | ((repeat (first | exact .hd | apply RdS.tl)); done) | assumption) (by decide) (by omega)) trivial rfl ?_ | refine AK.val _ (Yl.idx sl26 rfl rfl (by first | exact .arg ‹_› | ((repeat (first | exact .hd | apply RdS.tl)); done) | assumption) (by decide) (by omega)) trivial rfl ?_ | refine AK.val _ (Yl.idxK sl26 rfl rfl (by first | exact .arg ‹_› | ((repeat (first | exact .hd | apply RdS.tl)); done) | assumption) (by decide) (by omega)) trivial rfl ?_
        refine AK.store1e 1 rfl sz3 rfl rfl rfl rfl (by omega) (cs' := ((canN ((cs.zip rr).take (k + 1)) ++ List.replicate (cs.length - (k + 1)) 0).map (Value.int .i64))) (by exact can_fill (0, false) hzl (by omega) hcv) trivial ?_
        refine AK.nil ?_
        refine AK.block_normal ?_
        refine AK.then_ (hK9 _ ?_)
        refine AK.region ?_
        refine AK.val _ (Yl.add rfl rfl (by omega)) trivial rfl ?_
        refine AK.val _ (Yl.move rfl) trivial rfl ?_
        refine AK.nil ?_
        first | refine AK.then_ (hK6 _ _ (k + 1) (by omega) (by omega) (.cons (rfl) (.cons rfl (.cons rfl (.cons rfl (.cons rfl (.cons rfl (.nil))))))) (fun w hw => by rw [← ded_new (0, false) (by omega) hx]; exact hw.pick [0, 1] (by decide) rfl rfl)) | refine AK.then_ (hK6 _ _ (k + 1) (by omega) (by omega) (.cons (rfl) (.cons rfl (.cons rfl (.cons rfl (.cons rfl (.cons rfl (.nil))))))) (fun w hw => by rw [ded_old (0, false) (by omega) (by assumption)]; exact hw.pick [0, 1] (by decide) rfl rfl))
    · refine AK.exit ?_
      refine AK.then_exit ?_
      refine AK.then_exit ?_
      refine AK.block_exit ?_
      refine AK.then_ (hK4 _ ?_)
      refine AK.seq (fun _ hK16 => ?_)
      refine AK.region ?_
      refine AK.val _ (Yl.move rfl) trivial rfl ?_
      refine AK.val _ (Yl.assign rfl) trivial rfl ?_
      refine AK.nil ?_
      refine AK.then_ (hK16 _ ?_)
      refine AK.ret ?_
      refine AK.ret1 rfl rfl (fun w hw => ⟨_, _, ?_, rfl, Ret.of (hw.pick [1] (by decide) rfl rfl)⟩)
      have e : (cs.zip rr).take k = (cs.zip rr) := List.take_of_length_le (by omega)
      refine ⟨smv, ?_⟩
      rw [e, show cs.length - k = 0 by omega, List.replicate_zero, List.append_nil]
      rfl

set_option maxHeartbeats 400000 in
set_option maxRecDepth 100000 in
theorem s_idx (w : World) (va : Value) (rows : List (List Bool)) (ha : RdLL (fun _ => False) Value.bool w va rows) (fG : Nat) (cG : List Value) (g : List Bool → Bool) (hcG : CallOk Try.prog fG) (hG : ∀ w', FrameX (fun _ => False) w w' → ∀ v l, l ∈ rows → RdL (fun _ => False) Value.bool w' v l → CallS Try.prog fG ([] ++ [v] ++ cG) w' (fun r o => r = .bool (g l) ∧ o = [])) : CallS Try.prog 57 [va, .func (.func fG) #[] cG.toArray] w (fun r o => ∃ z : Int, r = .int .i64 z ∧ ((∃ k : Nat, z = (k : Int) ∧ k < rows.length ∧ g (rows.getD k []) = true) ∨ (z = -1 ∧ ∀ k, k < rows.length → g (rows.getD k []) = false)) ∧ o = []) := by
  obtain ⟨ra, hral, hAr, hAi⟩ := ha
  have hmr := hAr.le
  refine spec_of Try.func57 rfl (Nat.le_of_ble_eq_true rfl) ?_
  refine AK.seq (fun _ hK1 => ?_)
  refine AK.region ?_
  refine AK.val _ (Yl.assign rfl) trivial rfl ?_
  refine AK.nil ?_
  refine AK.then_ (hK1 _ ?_)
  refine AK.seq (fun _ hK2 => ?_)
  refine AK.seq (fun _ hK3 => ?_)
  refine AK.region ?_
  refine AK.val _ (Yl.move rfl) trivial rfl ?_
  refine AK.val _ (Yl.lenR sl88 rfl (by first | exact .arg ‹_› | ((repeat (first | exact .hd | apply RdS.tl)); done) | assumption | exact .arg hAr)) trivial rfl ?_
  refine AK.val _ (Yl.move rfl) trivial rfl ?_
  refine AK.nil ?_
  refine AK.then_ (hK3 _ ?_)
  refine AK.block ?_
  refine AK.loopK (X := Nat) [(0, _), (1, _), (7, _)] (fun k => [(8, .int .i64 (k : Int))]) (fun k => []) (fun k => k ≤ rows.length ∧ ∀ i, i < k → g (rows.getD i []) = false) (fun k => rows.length - k) (0) (.cons rfl (.cons rfl (.cons rfl (.nil)))) ?_ ?_ ?_ ?_
  · exact ⟨Nat.zero_le _, fun i hi => (by cases hi)⟩
  · exact .cons (rfl) (.nil)
  · exact fun w hw => hw
  · intro k hg0 _ hK4
    refine AK.seq (fun _ hK5 => ?_)
    refine AK.region ?_
    refine AK.val _ (Yl.lss rfl rfl) trivial rfl ?_
    refine AK.nil ?_
    refine AK.then_ (hK5 _ ?_)
    refine AK.seq (fun _ hK6 => ?_)
    refine AK.condD rfl (fun hc0 => ?_) (fun hc0 => ?_)
    · refine AK.skip ?_
      refine AK.then_ (hK6 _ ?_)
      refine AK.seq (fun _ hK7 => ?_)
      refine AK.block ?_
      refine AK.seq (fun _ hK8 => ?_)
      refine AK.region ?_
      refine AK.val _ (Yl.move rfl) trivial rfl ?_
      refine AK.val _ (Yl.assign rfl) trivial rfl ?_
      refine AK.nil ?_
      refine AK.then_ (hK8 _ ?_)
      refine AK.seq (fun _ hK9 => ?_)
      refine AK.region ?_
      refine AK.val _ (Yl.move rfl) trivial rfl ?_
      refine AK.val _ (Yl.move rfl) trivial rfl ?_
      refine AK.val _ (Yl.move rfl) trivial rfl ?_
      first | refine AK.val _ (Yl.idxN sl88 rfl rfl (by first | exact .arg ‹_› | ((repeat (first | exact .hd | apply RdS.tl)); done) | assumption | exact .arg hAr) (by decide) (by omega)) trivial rfl ?_ | refine AK.val _ (Yl.idx sl88 rfl rfl (by first | exact .arg ‹_› | ((repeat (first | exact .hd | apply RdS.tl)); done) | assumption | exact .arg hAr) (by decide) (by omega)) trivial rfl ?_ | refine AK.val _ (Yl.idxK sl88 rfl rfl (by first | exact .arg ‹_› | ((repeat (first | exact .hd | apply RdS.tl)); done) | assumption | exact .arg hAr) (by decide) (by omega)) trivial rfl ?_
      refine AK.val _ (Yl.loadV on22 rfl (by first | exact .arg ‹_› | ((repeat (first | exact .hd | apply RdS.tl)); done) | assumption | exact .arg hAr) (by omega)) trivial rfl ?_
      refine AK.callV hcG rfl rfl (fun w hw => hG w hw.frame _ (rows.getD k []) (getD_mem (by omega)) ((hAi k (by omega)).at hw)) trivial rfl ?_
      rintro r o ⟨rfl, rfl⟩
      refine AK.nil ?_
      refine AK.then_ (hK9 _ ?_)
      refine AK.cond rfl (fun hc1 => ?_) (fun hc1 => ?_)
      · try simp only [decide_eq_true_eq, decide_eq_false_iff_not, Bool.not_eq_true', Bool.not_eq_false', Bool.not_not, ne_eq, Decidable.not_not, Int.not_lt, Int.not_le, beq_iff_eq, bne_iff_ne, Bool.and_eq_true, Bool.or_eq_true, Bool.or_eq_false_iff, Bool.not_false, Bool.not_true, reduceCtorEq, not_true_eq_false, not_false_eq_true] at hc1
        refine AK.seq (fun _ hK10 => ?_)
        refine AK.region ?_
        refine AK.val _ (Yl.move rfl) trivial rfl ?_
        refine AK.val _ (Yl.assign rfl) trivial rfl ?_
        refine AK.nil ?_
        refine AK.then_ (hK10 _ ?_)
        refine AK.ret ?_
        refine AK.block_ret ?_
        refine AK.then_ret ?_
        refine AK.then_ret ?_
        refine AK.block_ret ?_
        refine AK.then_ret ?_
        refine AK.ret1 rfl rfl (fun w hw => ⟨_, _, ?_, rfl, Ret.of (hw.pick [] (by decide) rfl rfl)⟩)
        exact ⟨(k : Int), rfl, .inl ⟨k, rfl, by omega, hc1⟩, rfl⟩
      · try simp only [decide_eq_true_eq, decide_eq_false_iff_not, Bool.not_eq_true', Bool.not_eq_false', Bool.not_not, ne_eq, Decidable.not_not, Int.not_lt, Int.not_le, beq_iff_eq, bne_iff_ne, Bool.and_eq_true, Bool.or_eq_true, Bool.or_eq_false_iff, Bool.not_false, Bool.not_true, reduceCtorEq, not_true_eq_false, not_false_eq_true] at hc1
        refine AK.skip ?_
        refine AK.block_normal ?_
        refine AK.then_ (hK7 _ ?_)
        refine AK.region ?_
        refine AK.val _ (Yl.add rfl rfl (by omega)) trivial rfl ?_
        refine AK.val _ (Yl.move rfl) trivial rfl ?_
        refine AK.nil ?_
        refine AK.then_ (hK4 _ _ (k + 1) ⟨by omega, all_succ hg0.2 (by simpa using hc1)⟩ (by omega) (.cons (rfl) (.cons rfl (.cons rfl (.cons rfl (.nil))))) (fun w hw => hw))
    · refine AK.exit ?_
      refine AK.then_exit ?_
      refine AK.then_exit ?_
      refine AK.block_exit ?_
      refine AK.then_ (hK2 _ ?_)
      refine AK.seq (fun _ hK11 => ?_)
      refine AK.region ?_
      refine AK.val _ (Yl.assign rfl) trivial rfl ?_
      refine AK.nil ?_
      refine AK.then_ (hK11 _ ?_)
      refine AK.ret ?_
      refine AK.ret1 rfl rfl (fun w hw => ⟨_, _, ?_, rfl, Ret.of (hw.pick [] (by decide) rfl rfl)⟩)
      exact ⟨-1, rfl, .inr ⟨rfl, fun i hi => hg0.2 i (by omega)⟩, rfl⟩

set_option maxRecDepth 100000 in
theorem s_finer1 (w : World) (v : Value) (l : List Bool) (h : RdL (fun _ => False) Value.bool w v l) (b1 b2 : Nat) (p q : Int) (hb1 : BxA w b1 [.int .i64 p]) (hb2 : BxA w b2 [.int .i64 q]) (hp : 0 ≤ p ∧ p < l.length) (hq : 0 ≤ q ∧ q < l.length) : CallS Try.prog 58 [v, .pointer (some ⟨b1, 0, none⟩), .pointer (some ⟨b2, 0, none⟩)] w (fun r o => r = .bool (l.getD p.toNat false != l.getD q.toNat false) ∧ o = []) := by
  unfold RdL at h
  refine spec_of Try.func58 rfl (Nat.le_of_ble_eq_true rfl) ?_
  refine AK.seq (fun _ hK1 => ?_)
  refine AK.region ?_
  refine AK.val _ (Yl.assign rfl) trivial rfl ?_
  refine AK.nil ?_
  refine AK.then_ (hK1 _ ?_)
  refine AK.seq (fun _ hK2 => ?_)
  refine AK.quiet mixed (by kernel_rfl) ?_
  refine QK.val _ (Yl.move rfl) trivial rfl ?_
  refine QK.val _ (Yl.loadBox on3 rfl (by first | ((repeat (first | exact .hd | apply BoxS.tl | apply MapS.tl)); done) | assumption | exact BoxS.arg (by assumption)) rfl) trivial rfl ?_
  first | refine QK.val _ (Yl.idxN sl22 rfl rfl (by first | exact .arg ‹_› | ((repeat (first | exact .hd | apply RdS.tl)); done) | assumption) (by decide) (by omega)) trivial rfl ?_ | refine QK.val _ (Yl.idx sl22 rfl rfl (by first | exact .arg ‹_› | ((repeat (first | exact .hd | apply RdS.tl)); done) | assumption) (by decide) (by omega)) trivial rfl ?_ | refine QK.val _ (Yl.idxK sl22 rfl rfl (by first | exact .arg ‹_› | ((repeat (first | exact .hd | apply RdS.tl)); done) | assumption) (by decide) (by omega)) trivial rfl ?_
  refine QK.val _ (Yl.loadB on4 rfl (by first | exact .arg ‹_› | ((repeat (first | exact .hd | apply RdS.tl)); done) | assumption) (by omega)) trivial rfl ?_
  refine QK.val _ (Yl.move rfl) trivial rfl ?_
  refine QK.val _ (Yl.loadBox on3 rfl (by first | ((repeat (first | exact .hd | apply BoxS.tl | apply MapS.tl)); done) | assumption | exact BoxS.arg (by assumption)) rfl) trivial rfl ?_
  first | refine QK.val _ (Yl.idxN sl22 rfl rfl (by first | exact .arg ‹_› | ((repeat (first | exact .hd | apply RdS.tl)); done) | assumption) (by decide) (by omega)) trivial rfl ?_ | refine QK.val _ (Yl.idx sl22 rfl rfl (by first | exact .arg ‹_› | ((repeat (first | exact .hd | apply RdS.tl)); done) | assumption) (by decide) (by omega)) trivial rfl ?_ | refine QK.val _ (Yl.idxK sl22 rfl rfl (by first | exact .arg ‹_› | ((repeat (first | exact .hd | apply RdS.tl)); done) | assumption) (by decide) (by omega)) trivial rfl ?_
  refine QK.val _ (Yl.loadB on4 rfl (by first | exact .arg ‹_› | ((repeat (first | exact .hd | apply RdS.tl)); done) | assumption) (by omega)) trivial rfl ?_
  refine QK.val _ (Yl.neqB bo4 rfl rfl) trivial rfl ?_
  refine QK.val _ (Yl.assign rfl) trivial rfl ?_
  refine QK.nil (QK.fin ?_)
  refine AK.then_ (hK2 _ ?_)
  refine AK.ret ?_
  refine AK.ret1 rfl rfl (fun w hw => ⟨_, _, ?_, rfl, Ret.of (hw.pick [] (by decide) rfl rfl)⟩)
  exact ⟨rfl, rfl⟩

theorem fin_next {d : Dfa} {cs : List Int} (h : canN cs = cs) {q : Nat} (hq : q < cs.length) (h1 : ∀ p, p < q → ∀ y : Nat, (y : Int) < d.L → cs.getD (stepQ d ((p : Nat) : Int) y).toNat 0 = cs.getD (stepQ d ((fstI cs q).getD (cs.getD p 0).toNat 0) y).toNat 0) (h2 : ∀ y : Nat, (y : Int) < d.L → cs.getD (stepQ d ((q : Nat) : Int) y).toNat 0 = cs.getD (stepQ d ((fstI cs (q + 1)).getD (cs.getD q 0).toNat 0) y).toNat 0) :
    ∀ p, p < q + 1 → ∀ y : Nat, (y : Int) < d.L → cs.getD (stepQ d ((p : Nat) : Int) y).toNat 0 = cs.getD (stepQ d ((fstI cs (q + 1)).getD (cs.getD p 0).toNat 0) y).toNat 0 := by
  intro p hp y hy
  rcases Nat.lt_or_eq_of_le (Nat.le_of_lt_succ hp) with h3 | rfl
  · rw [(fstI_keep (fstI_has h q (by omega) p h3)).1]; exact h1 p h3 y hy
  · exact h2 y hy
def FineR (d : Dfa) (cs : List Int) (rows : List (List Bool)) (x z : Int) (ok : Bool) : Prop :=
  (ok = false → ∀ p q (x : Nat), InR d p → InR d q → (x : Int) < d.L → cs.getD p.toNat 0 = cs.getD q.toNat 0 → cs.getD (stepQ d p x).toNat 0 = cs.getD (stepQ d q x).toNat 0) ∧
  (ok = true → ∃ (p q : Int) (y : Nat), x = (y : Int) ∧ (y : Int) < d.L ∧ InR d p ∧ InR d q ∧ cs.getD p.toNat 0 = cs.getD q.toNat 0 ∧ cs.getD (stepQ d p y).toNat 0 ≠ cs.getD (stepQ d q y).toNat 0 ∧
    ((∃ k : Nat, z = (k : Int) ∧ k < rows.length ∧ (rows.getD k []).getD (stepQ d p y).toNat false ≠ (rows.getD k []).getD (stepQ d q y).toNat false) ∨ (z = -1 ∧ ∀ k, k < rows.length → (rows.getD k []).getD (stepQ d p y).toNat false = (rows.getD k []).getD (stepQ d q y).toNat false)))
set_option maxHeartbeats 1000000 in
set_option maxRecDepth 100000 in
theorem s_finer (w : World) (v : Value) (d : Dfa) (h : RdD (fun _ => False) w v d) (hv : VD d) (u : Value) (cs : List Int) (hu : RdL (fun _ => False) (Value.int .i64) w u cs) (hcl : cs.length = d.fin.length) (hcan : canN cs = cs) (va : Value) (rows : List (List Bool)) (ha : RdLL (fun _ => False) Value.bool w va rows) (hrw0 : ∀ l ∈ rows, l.length = d.fin.length) : CallS Try.prog 56 [v, u, va] w (fun r o => ∃ (x z : Int) (ok : Bool), r = .tuple #[.int .i64 x, .int .i64 z, .bool ok] ∧ FineR d cs rows x z ok ∧ o = []) := by
  have h0 := h
  obtain ⟨vF, vN, rfl, hF, hN⟩ := h
  have hF0 := hF
  have hN0 := hN
  obtain ⟨rs, hrl, hNr, hNi⟩ := hN
  have sF := hF.sl
  have sN := hNr.sl
  have hmf := hF.le
  have hmn := hNr.le
  unfold RdL at hF
  have hu0 := hu
  unfold RdL at hu
  have hdL := hv.L
  have hdnx := hv.nx
  have hdn := hv.n
  refine spec_of Try.func56 rfl (Nat.le_of_ble_eq_true rfl) ?_
  refine AK.seq (fun _ hK1 => ?_)
  refine AK.region ?_
  refine AK.box_ (E := 25) (cs := [.int .i64 d.L, .int .i64 d.s, vF, vN]) rfl rfl rfl trivial rfl (fun bx3 => ?_)
  refine AK.val _ (Yl.assign rfl) trivial rfl ?_
  refine AK.val _ (Yl.assign rfl) trivial rfl ?_
  refine AK.val _ (Yl.assign rfl) trivial rfl ?_
  refine AK.nil ?_
  refine AK.then_ (hK1 _ ?_)
  refine AK.seq (fun _ hK2 => ?_)
  refine AK.region ?_
  refine AK.val _ (Yl.assign rfl) trivial rfl ?_
  refine AK.nil ?_
  refine AK.then_ (hK2 _ ?_)
  refine AK.seq (fun _ hK3 => ?_)
  refine AK.seq (fun _ hK4 => ?_)
  refine AK.region ?_
  refine AK.val _ (Yl.move rfl) trivial rfl ?_
  refine AK.val _ (Yl.lenR sl26 rfl (by first | exact .arg ‹_› | ((repeat (first | exact .hd | apply RdS.tl)); done) | assumption | exact .arg (hNi _ (by omega)))) trivial rfl ?_
  refine AK.val _ (Yl.move rfl) trivial rfl ?_
  refine AK.nil ?_
  refine AK.then_ (hK4 _ ?_)
  refine AK.block ?_
  refine AK.loopK (X := Value × Nat) [(1, _), (2, _), (3, _), (16, _), (17, _)] (fun y => [(9, y.1), (18, .int .i64 (y.2 : Int))]) (fun y => [box bx3 25 4 [.int .i64 d.L, .int .i64 d.s, vF, vN], row y.1 3 1 (fstI cs y.2).length ((fstI cs y.2).map (Value.int .i64))]) (fun y => y.2 ≤ cs.length ∧ IsSl y.1 ∧ ∀ p, p < y.2 → ∀ x : Nat, (x : Int) < d.L → cs.getD (stepQ d ((p : Nat) : Int) x).toNat 0 = cs.getD (stepQ d ((fstI cs y.2).getD (cs.getD p 0).toNat 0) x).toNat 0) (fun y => cs.length - y.2) ((.slice none 0 0, 0)) (.cons rfl (.cons rfl (.cons rfl (.cons rfl (.cons rfl (.nil)))))) ?_ ?_ ?_ ?_
  · exact ⟨Nat.zero_le _, nilSl, fun p hp => (by cases hp)⟩
  · exact .cons (rfl) (.cons (rfl) (.nil))
  · exact fun w hw => hw.ghost 3 1
  · intro y hg0 _ hK5
    obtain ⟨yv, q⟩ := y
    dsimp only at *
    refine AK.seq (fun _ hK6 => ?_)
    refine AK.region ?_
    refine AK.val _ (Yl.lss rfl rfl) trivial rfl ?_
    refine AK.nil ?_
    refine AK.then_ (hK6 _ ?_)
    refine AK.seq (fun _ hK7 => ?_)
    refine AK.condD rfl (fun hc0 => ?_) (fun hc0 => ?_)
    · have hqn : q < d.fin.length := by omega
      have hrw := hv.row q hqn
      have hle := fstI_le hcan (k := q) (by omega)
      have hfb := fstI_bd cs q
      have hfh := fstI_has hcan (q + 1) (by omega) q (by omega)
      obtain ⟨hf1, hf2, hf3⟩ := fstI_at hcan (k := q + 1) (by omega) hfh
      have hfrw := hv.row ((fstI cs (q + 1)).getD (cs.getD q 0).toNat 0).toNat (by omega)
      have hself : cs.getD ((q : Nat) : Int).toNat 0 = cs.getD ((fstI cs (q + 1)).getD (cs.getD q 0).toNat 0).toNat 0 := by rw [hf3, Int.toNat_natCast]; omega
      refine AK.skip ?_
      refine AK.then_ (hK7 _ ?_)
      refine AK.seq (fun _ hK8 => ?_)
      refine AK.block ?_
      refine AK.seq (fun _ hK9 => ?_)
      refine AK.region ?_
      refine AK.val _ (Yl.move rfl) trivial rfl ?_
      first | refine AK.val _ (Yl.idxN sl26 rfl rfl (by first | exact .arg ‹_› | ((repeat (first | exact .hd | apply RdS.tl)); done) | assumption | exact .arg (hNi _ (by omega))) (by decide) (by omega)) trivial rfl ?_ | refine AK.val _ (Yl.idx sl26 rfl rfl (by first | exact .arg ‹_› | ((repeat (first | exact .hd | apply RdS.tl)); done) | assumption | exact .arg (hNi _ (by omega))) (by decide) (by omega)) trivial rfl ?_ | refine AK.val _ (Yl.idxK sl26 rfl rfl (by first | exact .arg ‹_› | ((repeat (first | exact .hd | apply RdS.tl)); done) | assumption | exact .arg (hNi _ (by omega))) (by decide) (by omega)) trivial rfl ?_
      refine AK.val _ (Yl.loadI on3 rfl (by first | exact .arg ‹_› | ((repeat (first | exact .hd | apply RdS.tl)); done) | assumption | exact .arg (hNi _ (by omega))) (by omega)) trivial rfl ?_
      refine AK.val _ (Yl.assign rfl) trivial rfl ?_
      refine AK.val _ (Yl.assign rfl) trivial rfl ?_
      refine AK.nil ?_
      refine AK.then_ (hK9 _ ?_)
      refine AK.seq (fun _ hK10 => ?_)
      refine AK.seq (fun _ hK11 => ?_)
      refine AK.region ?_
      refine AK.val _ (Yl.move rfl) trivial rfl ?_
      refine AK.val _ (Yl.move rfl) trivial rfl ?_
      refine AK.val _ (Yl.lenR sl26 rfl (by first | exact .arg ‹_› | ((repeat (first | exact .hd | apply RdS.tl)); done) | assumption | exact .arg (hNi _ (by omega)))) trivial rfl ?_
      refine AK.val _ (Yl.eql rfl rfl) trivial rfl ?_
      refine AK.nil ?_
      refine AK.then_ (hK11 _ ?_)
      refine AK.condD rfl (fun hc1 => ?_) (fun hc1 => ?_)
      · refine AK.region ?_
        refine AK.val _ (Yl.move rfl) trivial rfl ?_
        refine AK.val _ (Yl.move rfl) trivial rfl ?_
        refine AK.append1 1 rfl sl26 el3 rfl (by decide) rfl (by intro k hk; cases hk; rfl) rfl (by intro u hu; simp [Value.cells] at hu; subst hu; rfl) (by omega) (by omega) (by decide) rfl rfl (fun z _ hz => ?_)
        refine AK.val _ (Yl.assign rfl) trivial rfl ?_
        refine AK.nil ?_
        refine AK.then_ (hK10 _ ?_)
        refine AK.seq (fun _ hK12 => ?_)
        refine AK.region ?_
        refine AK.val _ (Yl.fieldAddr fd25_3 rfl) trivial rfl ?_
        refine AK.val _ (Yl.loadBox on23 rfl (by first | ((repeat (first | exact .hd | apply BoxS.tl | apply MapS.tl)); done) | assumption | exact BoxS.arg (by assumption)) rfl) trivial rfl ?_
        refine AK.val _ (Yl.move rfl) trivial rfl ?_
        first | refine AK.val _ (Yl.idxN sl23 rfl rfl (by first | exact .arg ‹_› | ((repeat (first | exact .hd | apply RdS.tl)); done) | assumption | exact .arg (hNi _ (by omega))) (by decide) (by omega)) trivial rfl ?_ | refine AK.val _ (Yl.idx sl23 rfl rfl (by first | exact .arg ‹_› | ((repeat (first | exact .hd | apply RdS.tl)); done) | assumption | exact .arg (hNi _ (by omega))) (by decide) (by omega)) trivial rfl ?_ | refine AK.val _ (Yl.idxK sl23 rfl rfl (by first | exact .arg ‹_› | ((repeat (first | exact .hd | apply RdS.tl)); done) | assumption | exact .arg (hNi _ (by omega))) (by decide) (by omega)) trivial rfl ?_
        refine AK.val _ (Yl.loadV on26 rfl (by first | exact .arg ‹_› | ((repeat (first | exact .hd | apply RdS.tl)); done) | assumption | exact .arg (hNi _ (by omega))) (by omega)) trivial rfl ?_
        refine AK.val _ (Yl.lenR sl26 rfl (by first | exact .arg ‹_› | ((repeat (first | exact .hd | apply RdS.tl)); done) | assumption | exact .arg (hNi _ (by omega)))) trivial rfl ?_
        refine AK.val _ (Yl.move rfl) trivial rfl ?_
        refine AK.nil ?_
        refine AK.then_ (hK12 _ ?_)
        refine AK.block ?_
        refine AK.loopK (X := Nat) [(1, _), (2, _), (3, _), (9, _), (11, _), (16, _), (17, _), (18, _), (35, _), (36, _)] (fun x => [(37, .int .i64 (x : Int))]) (fun x => [box bx3 25 4 [.int .i64 d.L, .int .i64 d.s, vF, vN], row z 3 1 (fstI cs (q + 1)).length ((fstI cs (q + 1)).map (Value.int .i64))]) (fun x => x ≤ (d.nx.getD q []).length ∧ ∀ y, y < x → cs.getD (stepQ d ((q : Nat) : Int) y).toNat 0 = cs.getD (stepQ d ((fstI cs (q + 1)).getD (cs.getD q 0).toNat 0) y).toNat 0) (fun x => (d.nx.getD q []).length - x) (0) (.cons rfl (.cons rfl (.cons rfl (.cons rfl (.cons rfl (.cons rfl (.cons rfl (.cons rfl (.cons rfl (.cons rfl (.nil))))))))))) ?_ ?_ ?_ ?_
        · exact ⟨Nat.zero_le _, fun i hi => (by cases hi)⟩
        · exact .cons (rfl) (.nil)
        · exact fun w hw => by first | (rw [fstI_skip (by omega)]; exact hw) | (rw [fstI_new (by omega), List.map_append, List.length_append]; exact hw)
        · intro x hg1 _ hK13
          refine AK.seq (fun _ hK14 => ?_)
          refine AK.region ?_
          refine AK.val _ (Yl.lss rfl rfl) trivial rfl ?_
          refine AK.nil ?_
          refine AK.then_ (hK14 _ ?_)
          refine AK.seq (fun _ hK15 => ?_)
          refine AK.condD rfl (fun hc2 => ?_) (fun hc2 => ?_)
          · have hto := hv.to q x hqn (by omega)
            have hot := hv.to ((fstI cs (q + 1)).getD (cs.getD q 0).toNat 0).toNat x (by omega) (by omega)
            refine AK.skip ?_
            refine AK.then_ (hK15 _ ?_)
            refine AK.seq (fun _ hK16 => ?_)
            refine AK.block ?_
            refine AK.seq (fun _ hK17 => ?_)
            refine AK.region ?_
            refine AK.val _ (Yl.move rfl) trivial rfl ?_
            first | refine AK.val _ (Yl.idxN sl26 rfl rfl (by first | exact .arg ‹_› | ((repeat (first | exact .hd | apply RdS.tl)); done) | assumption | exact .arg (hNi _ (by omega))) (by decide) (by omega)) trivial rfl ?_ | refine AK.val _ (Yl.idx sl26 rfl rfl (by first | exact .arg ‹_› | ((repeat (first | exact .hd | apply RdS.tl)); done) | assumption | exact .arg (hNi _ (by omega))) (by decide) (by omega)) trivial rfl ?_ | refine AK.val _ (Yl.idxK sl26 rfl rfl (by first | exact .arg ‹_› | ((repeat (first | exact .hd | apply RdS.tl)); done) | assumption | exact .arg (hNi _ (by omega))) (by decide) (by omega)) trivial rfl ?_
            refine AK.val _ (Yl.loadI on3 rfl (by first | exact .arg ‹_› | ((repeat (first | exact .hd | apply RdS.tl)); done) | assumption | exact .arg (hNi _ (by omega))) (by omega)) trivial rfl ?_
            refine AK.alloc el3 rfl rfl trivial rfl (fun bx13 => ?_)
            refine AK.val _ (Yl.assign rfl) trivial rfl ?_
            refine AK.storeBox 2 (us := [.int .i64 ((d.nx.getD q []).getD x 0)]) (cs' := [.int .i64 ((d.nx.getD q []).getD x 0)]) rfl sz3 rfl rfl rfl rfl (by repeat (first | exact one'_nil | refine one'_cons (by first | rfl | exact IsSl.one (by assumption) | exact IsSl.one nilSl) ?_)) (Nat.le_of_ble_eq_true rfl) rfl trivial ?_
            refine AK.nil ?_
            refine AK.then_ (hK17 _ ?_)
            refine AK.seq (fun _ hK18 => ?_)
            refine AK.joinK (X := Nat) [(1, _), (2, _), (3, _), (9, _), (11, _), (12, _), (13, _), (16, _), (17, _), (18, _), (35, _), (36, _), (37, _)] (fun bn => [(14, .pointer (some ⟨bn, 0, none⟩))]) (fun bn => [box bx3 25 4 [.int .i64 d.L, .int .i64 d.s, vF, vN], row z 3 1 (fstI cs (q + 1)).length ((fstI cs (q + 1)).map (Value.int .i64)), box bx13 3 1 [.int .i64 ((d.nx.getD q []).getD x 0)], box bn 3 1 [.int .i64 ((d.nx.getD ((fstI cs (q + 1)).getD (cs.getD q 0).toNat 0).toNat []).getD x 0)]]) (fun bn => True) (.cons rfl (.cons rfl (.cons rfl (.cons rfl (.cons rfl (.cons rfl (.cons rfl (.cons rfl (.cons rfl (.cons rfl (.cons rfl (.cons rfl (.cons rfl (.nil)))))))))))))) (fun _ hJ => ?_) (fun bn hg => ?_)
            · try (conv => enter [2, 2]; dsimp only [List.set_cons_zero, List.set_cons_succ, List.cons_append, List.nil_append])
              refine AK.held 12 mixed ?_
              refine HeldK.first 0 (fuel := 12) (listed' := #[true, false, false, false, false, false, false, false, false, false, false, false, false]) _ rfl (by kernel_rfl) rfl rfl (Yl.fieldAddr fd25_3 rfl) trivial rfl ?_
              refine HeldK.first 1 (fuel := 11) (listed' := #[true, true, false, false, false, false, false, false, false, false, false, false, false]) _ rfl (by kernel_rfl) rfl rfl (Yl.loadBox on23 rfl (by first | ((repeat (first | exact .hd | apply BoxS.tl | apply MapS.tl)); done) | assumption | exact BoxS.arg (by assumption)) rfl) trivial rfl ?_
              refine HeldK.first 2 (fuel := 10) (listed' := #[true, true, true, false, false, false, false, false, false, false, false, false, false]) _ rfl (by kernel_rfl) rfl rfl (Yl.move rfl) trivial rfl ?_
              refine HeldK.first 3 (fuel := 9) (listed' := #[true, true, true, true, false, false, false, false, false, false, false, false, false]) _ rfl (by kernel_rfl) rfl rfl (Yl.move rfl) trivial rfl ?_
              first | refine HeldK.first 4 (fuel := 8) (listed' := #[true, true, true, true, true, false, false, false, false, false, false, false, false]) _ rfl (by kernel_rfl) rfl rfl (Yl.idxN sl26 rfl rfl (by first | exact .arg ‹_› | ((repeat (first | exact .hd | apply RdS.tl)); done) | assumption | exact .arg (hNi _ (by omega))) (by decide) (by omega)) trivial rfl ?_ | refine HeldK.first 4 (fuel := 8) (listed' := #[true, true, true, true, true, false, false, false, false, false, false, false, false]) _ rfl (by kernel_rfl) rfl rfl (Yl.idx sl26 rfl rfl (by first | exact .arg ‹_› | ((repeat (first | exact .hd | apply RdS.tl)); done) | assumption | exact .arg (hNi _ (by omega))) (by decide) (by omega)) trivial rfl ?_ | refine HeldK.first 4 (fuel := 8) (listed' := #[true, true, true, true, true, false, false, false, false, false, false, false, false]) _ rfl (by kernel_rfl) rfl rfl (Yl.idxK sl26 rfl rfl (by first | exact .arg ‹_› | ((repeat (first | exact .hd | apply RdS.tl)); done) | assumption | exact .arg (hNi _ (by omega))) (by decide) (by omega)) trivial rfl ?_
              refine HeldK.first 5 (fuel := 7) (listed' := #[true, true, true, true, true, true, false, false, false, false, false, false, false]) _ rfl (by kernel_rfl) rfl rfl (Yl.loadI on3 rfl (by first | exact .arg ‹_› | ((repeat (first | exact .hd | apply RdS.tl)); done) | assumption | exact .arg (hNi _ (by omega))) (by omega)) trivial rfl ?_
              first | refine HeldK.first 6 (fuel := 6) (listed' := #[true, true, true, true, true, true, true, false, false, false, false, false, false]) _ rfl (by kernel_rfl) rfl rfl (Yl.idxN sl23 rfl rfl (by first | exact .arg ‹_› | ((repeat (first | exact .hd | apply RdS.tl)); done) | assumption | exact .arg (hNi _ (by omega))) (by decide) (by omega)) trivial rfl ?_ | refine HeldK.first 6 (fuel := 6) (listed' := #[true, true, true, true, true, true, true, false, false, false, false, false, false]) _ rfl (by kernel_rfl) rfl rfl (Yl.idx sl23 rfl rfl (by first | exact .arg ‹_› | ((repeat (first | exact .hd | apply RdS.tl)); done) | assumption | exact .arg (hNi _ (by omega))) (by decide) (by omega)) trivial rfl ?_ | refine HeldK.first 6 (fuel := 6) (listed' := #[true, true, true, true, true, true, true, false, false, false, false, false, false]) _ rfl (by kernel_rfl) rfl rfl (Yl.idxK sl23 rfl rfl (by first | exact .arg ‹_› | ((repeat (first | exact .hd | apply RdS.tl)); done) | assumption | exact .arg (hNi _ (by omega))) (by decide) (by omega)) trivial rfl ?_
              refine HeldK.first 7 (fuel := 5) (listed' := #[true, true, true, true, true, true, true, true, false, false, false, false, false]) _ rfl (by kernel_rfl) rfl rfl (Yl.loadV on26 rfl (by first | exact .arg ‹_› | ((repeat (first | exact .hd | apply RdS.tl)); done) | assumption | exact .arg (hNi _ (by omega))) (by omega)) trivial rfl ?_
              refine HeldK.first 8 (fuel := 4) (listed' := #[true, true, true, true, true, true, true, true, true, false, false, false, false]) _ rfl (by kernel_rfl) rfl rfl (Yl.move rfl) trivial rfl ?_
              first | refine HeldK.first 9 (fuel := 3) (listed' := #[true, true, true, true, true, true, true, true, true, true, false, false, false]) _ rfl (by kernel_rfl) rfl rfl (Yl.idxN sl26 rfl rfl (by first | exact .arg ‹_› | ((repeat (first | exact .hd | apply RdS.tl)); done) | assumption | exact .arg (hNi _ (by omega))) (by decide) (by omega)) trivial rfl ?_ | refine HeldK.first 9 (fuel := 3) (listed' := #[true, true, true, true, true, true, true, true, true, true, false, false, false]) _ rfl (by kernel_rfl) rfl rfl (Yl.idx sl26 rfl rfl (by first | exact .arg ‹_› | ((repeat (first | exact .hd | apply RdS.tl)); done) | assumption | exact .arg (hNi _ (by omega))) (by decide) (by omega)) trivial rfl ?_ | refine HeldK.first 9 (fuel := 3) (listed' := #[true, true, true, true, true, true, true, true, true, true, false, false, false]) _ rfl (by kernel_rfl) rfl rfl (Yl.idxK sl26 rfl rfl (by first | exact .arg ‹_› | ((repeat (first | exact .hd | apply RdS.tl)); done) | assumption | exact .arg (hNi _ (by omega))) (by decide) (by omega)) trivial rfl ?_
              refine HeldK.first 10 (fuel := 2) (listed' := #[true, true, true, true, true, true, true, true, true, true, true, false, false]) _ rfl (by kernel_rfl) rfl rfl (Yl.loadI on3 rfl (by first | exact .arg ‹_› | ((repeat (first | exact .hd | apply RdS.tl)); done) | assumption | exact .arg (hNi _ (by omega))) (by omega)) trivial rfl ?_
              refine HeldK.one 11 (fuel := 1) (listed' := #[true, true, true, true, true, true, true, true, true, true, true, true, false]) (by kernel_rfl) rfl rfl ?_
              refine AK.alloc el3 rfl rfl trivial rfl (fun bx14 => ?_)
              refine AK.nil ?_
              try (conv => enter [2, 2]; dsimp only [List.set_cons_zero, List.set_cons_succ, List.cons_append, List.nil_append])
              refine HeldK.back (by repeat (first | exact HWle.nil | refine HWle.cons Ale.rfl ?_ | refine HWle.cons Ale.fst ?_)) ?_
              refine HeldK.one 12 (fuel := 0) (listed' := #[true, true, true, true, true, true, true, true, true, true, true, true, true]) (by kernel_rfl) rfl rfl ?_
              refine AK.storeBox 3 (us := [.int .i64 ((d.nx.getD ((fstI cs (q + 1)).getD (cs.getD q 0).toNat 0).toNat []).getD x 0)]) (cs' := [.int .i64 ((d.nx.getD ((fstI cs (q + 1)).getD (cs.getD q 0).toNat 0).toNat []).getD x 0)]) rfl sz3 rfl rfl rfl rfl (by repeat (first | exact one'_nil | refine one'_cons (by first | rfl | exact IsSl.one (by assumption) | exact IsSl.one nilSl) ?_)) (Nat.le_of_ble_eq_true rfl) rfl trivial ?_
              refine AK.nil ?_
              try (conv => enter [2, 2]; dsimp only [List.set_cons_zero, List.set_cons_succ, List.cons_append, List.nil_append])
              refine HeldK.backN 13 rfl rfl (by kernel_rfl) ?_
              refine AK.nil ?_
              refine AK.fromQn ?_
              exact hJ _ _ (bx14) trivial (.cons (rfl) (.cons rfl (.cons rfl (.cons rfl (.cons rfl (.cons rfl (.cons rfl (.cons rfl (.cons rfl (.cons rfl (.cons rfl (.cons rfl (.cons rfl (.cons rfl (.nil))))))))))))))) (fun w hw => by first | (refine hw.pickLe [0, 1, 2, 3] (by decide) ?_; (repeat (first | exact PickLe.nil | refine PickLe.cons rfl Ale.rfl ?_ | refine PickLe.cons rfl Ale.snd ?_ | refine PickLe.cons rfl Ale.fst ?_)); done))
            · skip
              refine AK.then_ (hK18 _ ?_)
              refine AK.seq (fun _ hK19 => ?_)
              refine AK.quiet mixed (by kernel_rfl) ?_
              refine QK.val _ (Yl.move rfl) trivial rfl ?_
              refine QK.val _ (Yl.loadBox on3 rfl (by first | ((repeat (first | exact .hd | apply BoxS.tl | apply MapS.tl)); done) | assumption | exact BoxS.arg (by assumption)) rfl) trivial rfl ?_
              first | refine QK.val _ (Yl.idxN sl26 rfl rfl (by first | exact .arg ‹_› | ((repeat (first | exact .hd | apply RdS.tl)); done) | assumption | exact .arg (hNi _ (by omega))) (by decide) (by omega)) trivial rfl ?_ | refine QK.val _ (Yl.idx sl26 rfl rfl (by first | exact .arg ‹_› | ((repeat (first | exact .hd | apply RdS.tl)); done) | assumption | exact .arg (hNi _ (by omega))) (by decide) (by omega)) trivial rfl ?_ | refine QK.val _ (Yl.idxK sl26 rfl rfl (by first | exact .arg ‹_› | ((repeat (first | exact .hd | apply RdS.tl)); done) | assumption | exact .arg (hNi _ (by omega))) (by decide) (by omega)) trivial rfl ?_
              refine QK.val _ (Yl.loadI on3 rfl (by first | exact .arg ‹_› | ((repeat (first | exact .hd | apply RdS.tl)); done) | assumption | exact .arg (hNi _ (by omega))) (by omega)) trivial rfl ?_
              refine QK.val _ (Yl.move rfl) trivial rfl ?_
              refine QK.val _ (Yl.loadBox on3 rfl (by first | ((repeat (first | exact .hd | apply BoxS.tl | apply MapS.tl)); done) | assumption | exact BoxS.arg (by assumption)) rfl) trivial rfl ?_
              first | refine QK.val _ (Yl.idxN sl26 rfl rfl (by first | exact .arg ‹_› | ((repeat (first | exact .hd | apply RdS.tl)); done) | assumption | exact .arg (hNi _ (by omega))) (by decide) (by omega)) trivial rfl ?_ | refine QK.val _ (Yl.idx sl26 rfl rfl (by first | exact .arg ‹_› | ((repeat (first | exact .hd | apply RdS.tl)); done) | assumption | exact .arg (hNi _ (by omega))) (by decide) (by omega)) trivial rfl ?_ | refine QK.val _ (Yl.idxK sl26 rfl rfl (by first | exact .arg ‹_› | ((repeat (first | exact .hd | apply RdS.tl)); done) | assumption | exact .arg (hNi _ (by omega))) (by decide) (by omega)) trivial rfl ?_
              refine QK.val _ (Yl.loadI on3 rfl (by first | exact .arg ‹_› | ((repeat (first | exact .hd | apply RdS.tl)); done) | assumption | exact .arg (hNi _ (by omega))) (by omega)) trivial rfl ?_
              refine QK.val _ (Yl.neq rfl rfl) trivial rfl ?_
              refine QK.nil (QK.fin ?_)
              refine AK.then_ (hK19 _ ?_)
              refine AK.condNe rfl (fun hc3 => ?_) (fun hc3 => ?_)
              · refine AK.seq (fun _ hK20 => ?_)
                refine AK.region ?_
                refine AK.val _ (Yl.move rfl) trivial rfl ?_
                refine AK.val _ (Yl.makeFunc (first := []) (captured := [.tmp 13, .tmp 14]) rfl rfl) trivial rfl ?_
                refine AK.call co57 rfl (fun w hw => s_idx w va rows (ha.at hw) 58 [.pointer (some ⟨bx13, 0, none⟩), .pointer (some ⟨bn, 0, none⟩)] (fun l => l.getD ((d.nx.getD q []).getD x 0).toNat false != l.getD ((d.nx.getD ((fstI cs (q + 1)).getD (cs.getD q 0).toNat 0).toNat []).getD x 0).toNat false) co58 (fun w' hfr v l hm h => s_finer1 w' v l h bx13 bn _ _ ((BxA.own 2 hw rfl).fr hfr) ((BxA.own 3 hw rfl).fr hfr) (by rw [hrw0 l hm]; omega) (by rw [hrw0 l hm]; omega))) trivial rfl ?_
                rintro r o ⟨z2, rfl, hz2, rfl⟩
                refine AK.val _ (Yl.assign rfl) trivial rfl ?_
                refine AK.nil ?_
                refine AK.then_ (hK20 _ ?_)
                refine AK.seq (fun _ hK21 => ?_)
                refine AK.region ?_
                refine AK.val _ (Yl.move rfl) trivial rfl ?_
                refine AK.val _ (Yl.move rfl) trivial rfl ?_
                refine AK.val _ (Yl.assign rfl) trivial rfl ?_
                refine AK.val _ (Yl.assign rfl) trivial rfl ?_
                refine AK.val _ (Yl.assign rfl) trivial rfl ?_
                refine AK.nil ?_
                refine AK.then_ (hK21 _ ?_)
                refine AK.ret ?_
                refine AK.block_ret ?_
                refine AK.then_ret ?_
                refine AK.then_ret ?_
                refine AK.block_ret ?_
                refine AK.block_ret ?_
                refine AK.then_ret ?_
                refine AK.then_ret ?_
                refine AK.block_ret ?_
                refine AK.then_ret ?_
                refine AK.retG [.tmp 6, .tmp 7, .tmp 8] rfl (.cons (.tmp rfl) (.cons (.tmp rfl) (.cons (.tmp rfl) (.nil)))) (fun w hw => ⟨_, _, ?_, rfl, Ret.of (hw.pick [] (by decide) rfl rfl)⟩)
                refine ⟨_, _, _, rfl, ⟨fun h => (by cases h), fun _ => ⟨(q : Int), ((fstI cs (q + 1)).getD (cs.getD q 0).toNat 0), x, rfl, by omega, ⟨by omega, by omega⟩, ⟨by omega, by omega⟩, ?_, hc3, ?_⟩⟩, rfl⟩
                · exact hself
                · rcases hz2 with ⟨k, e, hk, hg⟩ | ⟨e, hg⟩
                  · exact .inl ⟨k, e, hk, bne_iff_ne.1 hg⟩
                  · exact .inr ⟨e, fun k hk => bne_eq_false_iff_eq.1 (hg k hk)⟩
              · have hst : cs.getD (stepQ d ((q : Nat) : Int) x).toNat 0 = cs.getD (stepQ d ((fstI cs (q + 1)).getD (cs.getD q 0).toNat 0) x).toNat 0 := hc3
                refine AK.skip ?_
                refine AK.block_normal ?_
                refine AK.then_ (hK16 _ ?_)
                refine AK.region ?_
                refine AK.val _ (Yl.add rfl rfl (by omega)) trivial rfl ?_
                refine AK.val _ (Yl.move rfl) trivial rfl ?_
                refine AK.nil ?_
                refine AK.then_ (hK13 _ _ (x + 1) ⟨by omega, all_succ hg1.2 hst⟩ (by omega) (.cons (rfl) (.cons rfl (.cons rfl (.cons rfl (.cons rfl (.cons rfl (.cons rfl (.cons rfl (.cons rfl (.cons rfl (.cons rfl (.nil)))))))))))) (fun w hw => hw.pick [0, 1] (by decide) rfl rfl))
          · refine AK.exit ?_
            refine AK.then_exit ?_
            refine AK.then_exit ?_
            refine AK.block_exit ?_
            refine AK.block_normal ?_
            refine AK.then_ (hK8 _ ?_)
            refine AK.region ?_
            refine AK.val _ (Yl.add rfl rfl (by omega)) trivial rfl ?_
            refine AK.val _ (Yl.move rfl) trivial rfl ?_
            refine AK.nil ?_
            refine AK.then_ (hK5 _ _ ((z, q + 1)) ⟨by dsimp only; omega, hz, fin_next hcan (by omega) hg0.2.2 (fun x hx => hg1.2 x (by omega))⟩ (by dsimp only; omega) (.cons (rfl) (.cons (rfl) (.cons rfl (.cons rfl (.cons rfl (.cons rfl (.cons rfl (.nil)))))))) (fun w hw => hw))
      · obtain ⟨z, ez⟩ : ∃ z, z = yv := ⟨_, rfl⟩
        have hz : IsSl z := by rw [ez]; exact hg0.2.1
        rw [← ez]
        refine AK.skip ?_
        refine AK.then_ (hK10 _ ?_)
        refine AK.seq (fun _ hK22 => ?_)
        refine AK.region ?_
        refine AK.val _ (Yl.fieldAddr fd25_3 rfl) trivial rfl ?_
        refine AK.val _ (Yl.loadBox on23 rfl (by first | ((repeat (first | exact .hd | apply BoxS.tl | apply MapS.tl)); done) | assumption | exact BoxS.arg (by assumption)) rfl) trivial rfl ?_
        refine AK.val _ (Yl.move rfl) trivial rfl ?_
        first | refine AK.val _ (Yl.idxN sl23 rfl rfl (by first | exact .arg ‹_› | ((repeat (first | exact .hd | apply RdS.tl)); done) | assumption | exact .arg (hNi _ (by omega))) (by decide) (by omega)) trivial rfl ?_ | refine AK.val _ (Yl.idx sl23 rfl rfl (by first | exact .arg ‹_› | ((repeat (first | exact .hd | apply RdS.tl)); done) | assumption | exact .arg (hNi _ (by omega))) (by decide) (by omega)) trivial rfl ?_ | refine AK.val _ (Yl.idxK sl23 rfl rfl (by first | exact .arg ‹_› | ((repeat (first | exact .hd | apply RdS.tl)); done) | assumption | exact .arg (hNi _ (by omega))) (by decide) (by omega)) trivial rfl ?_
        refine AK.val _ (Yl.loadV on26 rfl (by first | exact .arg ‹_› | ((repeat (first | exact .hd | apply RdS.tl)); done) | assumption | exact .arg (hNi _ (by omega))) (by omega)) trivial rfl ?_
        refine AK.val _ (Yl.lenR sl26 rfl (by first | exact .arg ‹_› | ((repeat (first | exact .hd | apply RdS.tl)); done) | assumption | exact .arg (hNi _ (by omega)))) trivial rfl ?_
        refine AK.val _ (Yl.move rfl) trivial rfl ?_
        refine AK.nil ?_
        refine AK.then_ (hK22 _ ?_)
        refine AK.block ?_
        refine AK.loopK (X := Nat) [(1, _), (2, _), (3, _), (9, _), (11, _), (16, _), (17, _), (18, _), (35, _), (36, _)] (fun x => [(37, .int .i64 (x : Int))]) (fun x => [box bx3 25 4 [.int .i64 d.L, .int .i64 d.s, vF, vN], row z 3 1 (fstI cs (q + 1)).length ((fstI cs (q + 1)).map (Value.int .i64))]) (fun x => x ≤ (d.nx.getD q []).length ∧ ∀ y, y < x → cs.getD (stepQ d ((q : Nat) : Int) y).toNat 0 = cs.getD (stepQ d ((fstI cs (q + 1)).getD (cs.getD q 0).toNat 0) y).toNat 0) (fun x => (d.nx.getD q []).length - x) (0) (.cons rfl (.cons rfl (.cons rfl (.cons rfl (.cons rfl (.cons rfl (.cons rfl (.cons rfl (.cons rfl (.cons rfl (.nil))))))))))) ?_ ?_ ?_ ?_
        · exact ⟨Nat.zero_le _, fun i hi => (by cases hi)⟩
        · exact .cons (rfl) (.nil)
        · exact fun w hw => by first | (rw [fstI_skip (by omega)]; exact hw) | (rw [fstI_new (by omega), List.map_append, List.length_append]; exact hw)
        · intro x hg1 _ hK23
          refine AK.seq (fun _ hK24 => ?_)
          refine AK.region ?_
          refine AK.val _ (Yl.lss rfl rfl) trivial rfl ?_
          refine AK.nil ?_
          refine AK.then_ (hK24 _ ?_)
          refine AK.seq (fun _ hK25 => ?_)
          refine AK.condD rfl (fun hc2 => ?_) (fun hc2 => ?_)
          · have hto := hv.to q x hqn (by omega)
            have hot := hv.to ((fstI cs (q + 1)).getD (cs.getD q 0).toNat 0).toNat x (by omega) (by omega)
            refine AK.skip ?_
            refine AK.then_ (hK25 _ ?_)
            refine AK.seq (fun _ hK26 => ?_)
            refine AK.block ?_
            refine AK.seq (fun _ hK27 => ?_)
            refine AK.region ?_
            refine AK.val _ (Yl.move rfl) trivial rfl ?_
            first | refine AK.val _ (Yl.idxN sl26 rfl rfl (by first | exact .arg ‹_› | ((repeat (first | exact .hd | apply RdS.tl)); done) | assumption | exact .arg (hNi _ (by omega))) (by decide) (by omega)) trivial rfl ?_ | refine AK.val _ (Yl.idx sl26 rfl rfl (by first | exact .arg ‹_› | ((repeat (first | exact .hd | apply RdS.tl)); done) | assumption | exact .arg (hNi _ (by omega))) (by decide) (by omega)) trivial rfl ?_ | refine AK.val _ (Yl.idxK sl26 rfl rfl (by first | exact .arg ‹_› | ((repeat (first | exact .hd | apply RdS.tl)); done) | assumption | exact .arg (hNi _ (by omega))) (by decide) (by omega)) trivial rfl ?_
            refine AK.val _ (Yl.loadI on3 rfl (by first | exact .arg ‹_› | ((repeat (first | exact .hd | apply RdS.tl)); done) | assumption | exact .arg (hNi _ (by omega))) (by omega)) trivial rfl ?_
            refine AK.alloc el3 rfl rfl trivial rfl (fun bx13 => ?_)
            refine AK.val _ (Yl.assign rfl) trivial rfl ?_
            refine AK.storeBox 2 (us := [.int .i64 ((d.nx.getD q []).getD x 0)]) (cs' := [.int .i64 ((d.nx.getD q []).getD x 0)]) rfl sz3 rfl rfl rfl rfl (by repeat (first | exact one'_nil | refine one'_cons (by first | rfl | exact IsSl.one (by assumption) | exact IsSl.one nilSl) ?_)) (Nat.le_of_ble_eq_true rfl) rfl trivial ?_
            refine AK.nil ?_
            refine AK.then_ (hK27 _ ?_)
            refine AK.seq (fun _ hK28 => ?_)
            refine AK.joinK (X := Nat) [(1, _), (2, _), (3, _), (9, _), (11, _), (12, _), (13, _), (16, _), (17, _), (18, _), (35, _), (36, _), (37, _)] (fun bn => [(14, .pointer (some ⟨bn, 0, none⟩))]) (fun bn => [box bx3 25 4 [.int .i64 d.L, .int .i64 d.s, vF, vN], row z 3 1 (fstI cs (q + 1)).length ((fstI cs (q + 1)).map (Value.int .i64)), box bx13 3 1 [.int .i64 ((d.nx.getD q []).getD x 0)], box bn 3 1 [.int .i64 ((d.nx.getD ((fstI cs (q + 1)).getD (cs.getD q 0).toNat 0).toNat []).getD x 0)]]) (fun bn => True) (.cons rfl (.cons rfl (.cons rfl (.cons rfl (.cons rfl (.cons rfl (.cons rfl (.cons rfl (.cons rfl (.cons rfl (.cons rfl (.cons rfl (.cons rfl (.nil)))))))))))))) (fun _ hJ => ?_) (fun bn hg => ?_)
            · try (conv => enter [2, 2]; dsimp only [List.set_cons_zero, List.set_cons_succ, List.cons_append, List.nil_append])
              refine AK.held 12 mixed ?_
              refine HeldK.first 0 (fuel := 12) (listed' := #[true, false, false, false, false, false, false, false, false, false, false, false, false]) _ rfl (by kernel_rfl) rfl rfl (Yl.fieldAddr fd25_3 rfl) trivial rfl ?_
              refine HeldK.first 1 (fuel := 11) (listed' := #[true, true, false, false, false, false, false, false, false, false, false, false, false]) _ rfl (by kernel_rfl) rfl rfl (Yl.loadBox on23 rfl (by first | ((repeat (first | exact .hd | apply BoxS.tl | apply MapS.tl)); done) | assumption | exact BoxS.arg (by assumption)) rfl) trivial rfl ?_
              refine HeldK.first 2 (fuel := 10) (listed' := #[true, true, true, false, false, false, false, false, false, false, false, false, false]) _ rfl (by kernel_rfl) rfl rfl (Yl.move rfl) trivial rfl ?_
              refine HeldK.first 3 (fuel := 9) (listed' := #[true, true, true, true, false, false, false, false, false, false, false, false, false]) _ rfl (by kernel_rfl) rfl rfl (Yl.move rfl) trivial rfl ?_
              first | refine HeldK.first 4 (fuel := 8) (listed' := #[true, true, true, true, true, false, false, false, false, false, false, false, false]) _ rfl (by kernel_rfl) rfl rfl (Yl.idxN sl26 rfl rfl (by first | exact .arg ‹_› | ((repeat (first | exact .hd | apply RdS.tl)); done) | assumption | exact .arg (hNi _ (by omega))) (by decide) (by omega)) trivial rfl ?_ | refine HeldK.first 4 (fuel := 8) (listed' := #[true, true, true, true, true, false, false, false, false, false, false, false, false]) _ rfl (by kernel_rfl) rfl rfl (Yl.idx sl26 rfl rfl (by first | exact .arg ‹_› | ((repeat (first | exact .hd | apply RdS.tl)); done) | assumption | exact .arg (hNi _ (by omega))) (by decide) (by omega)) trivial rfl ?_ | refine HeldK.first 4 (fuel := 8) (listed' := #[true, true, true, true, true, false, false, false, false, false, false, false, false]) _ rfl (by kernel_rfl) rfl rfl (Yl.idxK sl26 rfl rfl (by first | exact .arg ‹_› | ((repeat (first | exact .hd | apply RdS.tl)); done) | assumption | exact .arg (hNi _ (by omega))) (by decide) (by omega)) trivial rfl ?_
              refine HeldK.first 5 (fuel := 7) (listed' := #[true, true, true, true, true, true, false, false, false, false, false, false, false]) _ rfl (by kernel_rfl) rfl rfl (Yl.loadI on3 rfl (by first | exact .arg ‹_› | ((repeat (first | exact .hd | apply RdS.tl)); done) | assumption | exact .arg (hNi _ (by omega))) (by omega)) trivial rfl ?_
              first | refine HeldK.first 6 (fuel := 6) (listed' := #[true, true, true, true, true, true, true, false, false, false, false, false, false]) _ rfl (by kernel_rfl) rfl rfl (Yl.idxN sl23 rfl rfl (by first | exact .arg ‹_› | ((repeat (first | exact .hd | apply RdS.tl)); done) | assumption | exact .arg (hNi _ (by omega))) (by decide) (by omega)) trivial rfl ?_ | refine HeldK.first 6 (fuel := 6) (listed' := #[true, true, true, true, true, true, true, false, false, false, false, false, false]) _ rfl (by kernel_rfl) rfl rfl (Yl.idx sl23 rfl rfl (by first | exact .arg ‹_› | ((repeat (first | exact .hd | apply RdS.tl)); done) | assumption | exact .arg (hNi _ (by omega))) (by decide) (by omega)) trivial rfl ?_ | refine HeldK.first 6 (fuel := 6) (listed' := #[true, true, true, true, true, true, true, false, false, false, false, false, false]) _ rfl (by kernel_rfl) rfl rfl (Yl.idxK sl23 rfl rfl (by first | exact .arg ‹_› | ((repeat (first | exact .hd | apply RdS.tl)); done) | assumption | exact .arg (hNi _ (by omega))) (by decide) (by omega)) trivial rfl ?_
              refine HeldK.first 7 (fuel := 5) (listed' := #[true, true, true, true, true, true, true, true, false, false, false, false, false]) _ rfl (by kernel_rfl) rfl rfl (Yl.loadV on26 rfl (by first | exact .arg ‹_› | ((repeat (first | exact .hd | apply RdS.tl)); done) | assumption | exact .arg (hNi _ (by omega))) (by omega)) trivial rfl ?_
              refine HeldK.first 8 (fuel := 4) (listed' := #[true, true, true, true, true, true, true, true, true, false, false, false, false]) _ rfl (by kernel_rfl) rfl rfl (Yl.move rfl) trivial rfl ?_
              first | refine HeldK.first 9 (fuel := 3) (listed' := #[true, true, true, true, true, true, true, true, true, true, false, false, false]) _ rfl (by kernel_rfl) rfl rfl (Yl.idxN sl26 rfl rfl (by first | exact .arg ‹_› | ((repeat (first | exact .hd | apply RdS.tl)); done) | assumption | exact .arg (hNi _ (by omega))) (by decide) (by omega)) trivial rfl ?_ | refine HeldK.first 9 (fuel := 3) (listed' := #[true, true, true, true, true, true, true, true, true, true, false, false, false]) _ rfl (by kernel_rfl) rfl rfl (Yl.idx sl26 rfl rfl (by first | exact .arg ‹_› | ((repeat (first | exact .hd | apply RdS.tl)); done) | assumption | exact .arg (hNi _ (by omega))) (by decide) (by omega)) trivial rfl ?_ | refine HeldK.first 9 (fuel := 3) (listed' := #[true, true, true, true, true, true, true, true, true, true, false, false, false]) _ rfl (by kernel_rfl) rfl rfl (Yl.idxK sl26 rfl rfl (by first | exact .arg ‹_› | ((repeat (first | exact .hd | apply RdS.tl)); done) | assumption | exact .arg (hNi _ (by omega))) (by decide) (by omega)) trivial rfl ?_
              refine HeldK.first 10 (fuel := 2) (listed' := #[true, true, true, true, true, true, true, true, true, true, true, false, false]) _ rfl (by kernel_rfl) rfl rfl (Yl.loadI on3 rfl (by first | exact .arg ‹_› | ((repeat (first | exact .hd | apply RdS.tl)); done) | assumption | exact .arg (hNi _ (by omega))) (by omega)) trivial rfl ?_
              refine HeldK.one 11 (fuel := 1) (listed' := #[true, true, true, true, true, true, true, true, true, true, true, true, false]) (by kernel_rfl) rfl rfl ?_
              refine AK.alloc el3 rfl rfl trivial rfl (fun bx14 => ?_)
              refine AK.nil ?_
              try (conv => enter [2, 2]; dsimp only [List.set_cons_zero, List.set_cons_succ, List.cons_append, List.nil_append])
              refine HeldK.back (by repeat (first | exact HWle.nil | refine HWle.cons Ale.rfl ?_ | refine HWle.cons Ale.fst ?_)) ?_
              refine HeldK.one 12 (fuel := 0) (listed' := #[true, true, true, true, true, true, true, true, true, true, true, true, true]) (by kernel_rfl) rfl rfl ?_
              refine AK.storeBox 3 (us := [.int .i64 ((d.nx.getD ((fstI cs (q + 1)).getD (cs.getD q 0).toNat 0).toNat []).getD x 0)]) (cs' := [.int .i64 ((d.nx.getD ((fstI cs (q + 1)).getD (cs.getD q 0).toNat 0).toNat []).getD x 0)]) rfl sz3 rfl rfl rfl rfl (by repeat (first | exact one'_nil | refine one'_cons (by first | rfl | exact IsSl.one (by assumption) | exact IsSl.one nilSl) ?_)) (Nat.le_of_ble_eq_true rfl) rfl trivial ?_
              refine AK.nil ?_
              try (conv => enter [2, 2]; dsimp only [List.set_cons_zero, List.set_cons_succ, List.cons_append, List.nil_append])
              refine HeldK.backN 13 rfl rfl (by kernel_rfl) ?_
              refine AK.nil ?_
              refine AK.fromQn ?_
              exact hJ _ _ (bx14) trivial (.cons (rfl) (.cons rfl (.cons rfl (.cons rfl (.cons rfl (.cons rfl (.cons rfl (.cons rfl (.cons rfl (.cons rfl (.cons rfl (.cons rfl (.cons rfl (.cons rfl (.nil))))))))))))))) (fun w hw => by first | (refine hw.pickLe [0, 1, 2, 3] (by decide) ?_; (repeat (first | exact PickLe.nil | refine PickLe.cons rfl Ale.rfl ?_ | refine PickLe.cons rfl Ale.snd ?_ | refine PickLe.cons rfl Ale.fst ?_)); done))
            · skip
              refine AK.then_ (hK28 _ ?_)
              refine AK.seq (fun _ hK29 => ?_)
              refine AK.quiet mixed (by kernel_rfl) ?_
              refine QK.val _ (Yl.move rfl) trivial rfl ?_
              refine QK.val _ (Yl.loadBox on3 rfl (by first | ((repeat (first | exact .hd | apply BoxS.tl | apply MapS.tl)); done) | assumption | exact BoxS.arg (by assumption)) rfl) trivial rfl ?_
              first | refine QK.val _ (Yl.idxN sl26 rfl rfl (by first | exact .arg ‹_› | ((repeat (first | exact .hd | apply RdS.tl)); done) | assumption | exact .arg (hNi _ (by omega))) (by decide) (by omega)) trivial rfl ?_ | refine QK.val _ (Yl.idx sl26 rfl rfl (by first | exact .arg ‹_› | ((repeat (first | exact .hd | apply RdS.tl)); done) | assumption | exact .arg (hNi _ (by omega))) (by decide) (by omega)) trivial rfl ?_ | refine QK.val _ (Yl.idxK sl26 rfl rfl (by first | exact .arg ‹_› | ((repeat (first | exact .hd | apply RdS.tl)); done) | assumption | exact .arg (hNi _ (by omega))) (by decide) (by omega)) trivial rfl ?_
              refine QK.val _ (Yl.loadI on3 rfl (by first | exact .arg ‹_› | ((repeat (first | exact .hd | apply RdS.tl)); done) | assumption | exact .arg (hNi _ (by omega))) (by omega)) trivial rfl ?_
              refine QK.val _ (Yl.move rfl) trivial rfl ?_
              refine QK.val _ (Yl.loadBox on3 rfl (by first | ((repeat (first | exact .hd | apply BoxS.tl | apply MapS.tl)); done) | assumption | exact BoxS.arg (by assumption)) rfl) trivial rfl ?_
              first | refine QK.val _ (Yl.idxN sl26 rfl rfl (by first | exact .arg ‹_› | ((repeat (first | exact .hd | apply RdS.tl)); done) | assumption | exact .arg (hNi _ (by omega))) (by decide) (by omega)) trivial rfl ?_ | refine QK.val _ (Yl.idx sl26 rfl rfl (by first | exact .arg ‹_› | ((repeat (first | exact .hd | apply RdS.tl)); done) | assumption | exact .arg (hNi _ (by omega))) (by decide) (by omega)) trivial rfl ?_ | refine QK.val _ (Yl.idxK sl26 rfl rfl (by first | exact .arg ‹_› | ((repeat (first | exact .hd | apply RdS.tl)); done) | assumption | exact .arg (hNi _ (by omega))) (by decide) (by omega)) trivial rfl ?_
              refine QK.val _ (Yl.loadI on3 rfl (by first | exact .arg ‹_› | ((repeat (first | exact .hd | apply RdS.tl)); done) | assumption | exact .arg (hNi _ (by omega))) (by omega)) trivial rfl ?_
              refine QK.val _ (Yl.neq rfl rfl) trivial rfl ?_
              refine QK.nil (QK.fin ?_)
              refine AK.then_ (hK29 _ ?_)
              refine AK.condNe rfl (fun hc3 => ?_) (fun hc3 => ?_)
              · refine AK.seq (fun _ hK30 => ?_)
                refine AK.region ?_
                refine AK.val _ (Yl.move rfl) trivial rfl ?_
                refine AK.val _ (Yl.makeFunc (first := []) (captured := [.tmp 13, .tmp 14]) rfl rfl) trivial rfl ?_
                refine AK.call co57 rfl (fun w hw => s_idx w va rows (ha.at hw) 58 [.pointer (some ⟨bx13, 0, none⟩), .pointer (some ⟨bn, 0, none⟩)] (fun l => l.getD ((d.nx.getD q []).getD x 0).toNat false != l.getD ((d.nx.getD ((fstI cs (q + 1)).getD (cs.getD q 0).toNat 0).toNat []).getD x 0).toNat false) co58 (fun w' hfr v l hm h => s_finer1 w' v l h bx13 bn _ _ ((BxA.own 2 hw rfl).fr hfr) ((BxA.own 3 hw rfl).fr hfr) (by rw [hrw0 l hm]; omega) (by rw [hrw0 l hm]; omega))) trivial rfl ?_
                rintro r o ⟨z2, rfl, hz2, rfl⟩
                refine AK.val _ (Yl.assign rfl) trivial rfl ?_
                refine AK.nil ?_
                refine AK.then_ (hK30 _ ?_)
                refine AK.seq (fun _ hK31 => ?_)
                refine AK.region ?_
                refine AK.val _ (Yl.move rfl) trivial rfl ?_
                refine AK.val _ (Yl.move rfl) trivial rfl ?_
                refine AK.val _ (Yl.assign rfl) trivial rfl ?_
                refine AK.val _ (Yl.assign rfl) trivial rfl ?_
                refine AK.val _ (Yl.assign rfl) trivial rfl ?_
                refine AK.nil ?_
                refine AK.then_ (hK31 _ ?_)
                refine AK.ret ?_
                refine AK.block_ret ?_
                refine AK.then_ret ?_
                refine AK.then_ret ?_
                refine AK.block_ret ?_
                refine AK.block_ret ?_
                refine AK.then_ret ?_
                refine AK.then_ret ?_
                refine AK.block_ret ?_
                refine AK.then_ret ?_
                refine AK.retG [.tmp 6, .tmp 7, .tmp 8] rfl (.cons (.tmp rfl) (.cons (.tmp rfl) (.cons (.tmp rfl) (.nil)))) (fun w hw => ⟨_, _, ?_, rfl, Ret.of (hw.pick [] (by decide) rfl rfl)⟩)
                refine ⟨_, _, _, rfl, ⟨fun h => (by cases h), fun _ => ⟨(q : Int), ((fstI cs (q + 1)).getD (cs.getD q 0).toNat 0), x, rfl, by omega, ⟨by omega, by omega⟩, ⟨by omega, by omega⟩, ?_, hc3, ?_⟩⟩, rfl⟩
                · exact hself
                · rcases hz2 with ⟨k, e, hk, hg⟩ | ⟨e, hg⟩
                  · exact .inl ⟨k, e, hk, bne_iff_ne.1 hg⟩
                  · exact .inr ⟨e, fun k hk => bne_eq_false_iff_eq.1 (hg k hk)⟩
              · have hst : cs.getD (stepQ d ((q : Nat) : Int) x).toNat 0 = cs.getD (stepQ d ((fstI cs (q + 1)).getD (cs.getD q 0).toNat 0) x).toNat 0 := hc3
                refine AK.skip ?_
                refine AK.block_normal ?_
                refine AK.then_ (hK26 _ ?_)
                refine AK.region ?_
                refine AK.val _ (Yl.add rfl rfl (by omega)) trivial rfl ?_
                refine AK.val _ (Yl.move rfl) trivial rfl ?_
                refine AK.nil ?_
                refine AK.then_ (hK23 _ _ (x + 1) ⟨by omega, all_succ hg1.2 hst⟩ (by omega) (.cons (rfl) (.cons rfl (.cons rfl (.cons rfl (.cons rfl (.cons rfl (.cons rfl (.cons rfl (.cons rfl (.cons rfl (.cons rfl (.nil)))))))))))) (fun w hw => hw.pick [0, 1] (by decide) rfl rfl))
          · refine AK.exit ?_
            refine AK.then_exit ?_
            refine AK.then_exit ?_
            refine AK.block_exit ?_
            refine AK.block_normal ?_
            refine AK.then_ (hK8 _ ?_)
            refine AK.region ?_
            refine AK.val _ (Yl.add rfl rfl (by omega)) trivial rfl ?_
            refine AK.val _ (Yl.move rfl) trivial rfl ?_
            refine AK.nil ?_
            refine AK.then_ (hK5 _ _ ((z, q + 1)) ⟨by dsimp only; omega, hz, fin_next hcan (by omega) hg0.2.2 (fun x hx => hg1.2 x (by omega))⟩ (by dsimp only; omega) (.cons (rfl) (.cons (rfl) (.cons rfl (.cons rfl (.cons rfl (.cons rfl (.cons rfl (.nil)))))))) (fun w hw => hw))
    · refine AK.exit ?_
      refine AK.then_exit ?_
      refine AK.then_exit ?_
      refine AK.block_exit ?_
      refine AK.then_ (hK3 _ ?_)
      refine AK.seq (fun _ hK32 => ?_)
      refine AK.region ?_
      refine AK.val _ (Yl.assign rfl) trivial rfl ?_
      refine AK.val _ (Yl.assign rfl) trivial rfl ?_
      refine AK.val _ (Yl.assign rfl) trivial rfl ?_
      refine AK.nil ?_
      refine AK.then_ (hK32 _ ?_)
      refine AK.ret ?_
      refine AK.retG [.tmp 6, .tmp 7, .tmp 8] rfl (.cons (.tmp rfl) (.cons (.tmp rfl) (.cons (.tmp rfl) (.nil)))) (fun w hw => ⟨_, _, ?_, rfl, Ret.of (hw.pick [] (by decide) rfl rfl)⟩)
      refine ⟨_, _, _, rfl, ⟨fun _ p q x hp hq hx he => ?_, fun h => (by cases h)⟩, rfl⟩
      have hp1 := hp.1
      have hp2 := hp.2
      have hq1 := hq.1
      have hq2 := hq.2
      have h1 := hg0.2.2 p.toNat (by omega) x hx
      have h2 := hg0.2.2 q.toNat (by omega) x hx
      rw [show ((p.toNat : Nat) : Int) = p by omega] at h1
      rw [show ((q.toNat : Nat) : Int) = q by omega] at h2
      rw [h1, h2, he]

end Go.Proofs.Ytoikhoniogicdaa

set_option linter.unusedVariables false
set_option linter.unusedSimpArgs false
namespace Go.Proofs.Ytoikhoniogicdaa
open Go.Sx Go.RowKit
theorem hd_app {α : Type} (a : α) (l : List α) (d : α) : (a :: l).take l.length ++ [(a :: l).getD l.length d] = a :: l := by
  have h := take_snocD d (a :: l) l.length (by simp)
  rw [← h, List.take_of_length_le (by simp)]
theorem hd_next {α : Type} (a : α) (l : List α) (x : α) : (a :: (l ++ [x])).take (l ++ [x]).length = a :: l := by simp
theorem hd_nextT {α : Type} (a : α) (l : List α) (x d : α) : (a :: (l ++ [x])).getD (l ++ [x]).length d = x := by simp [List.getD_eq_getElem?_getD]
theorem hd_len {α : Type} (a : α) (l : List α) : ((a :: l).take l.length).length = l.length := by simp
theorem rowT_nil {d : Dfa} : rowT d [] = d.fin := by
  apply List.ext_getElem
  · simp [rowT]
  · intro i h1 h2
    simp [rowT, finQ, runI, List.getD_eq_getElem?_getD, h2]
theorem rows_at {d : Dfa} {l : List (List UInt8)} {i : Nat} (h : i < l.length + 1) : (d.fin :: l.map (rowT d)).getD i [] = rowT d (([] :: l).getD i []) := by
  rw [← rowT_nil, ← List.map_cons]
  simp only [List.getD_eq_getElem?_getD, List.getElem?_map]
  rw [List.getElem?_eq_getElem (show i < (([] : List UInt8) :: l).length by simpa using h)]
  rfl
theorem rowT_cons {d : Dfa} (hv : VD d) {q y : Nat} (hq : q < d.fin.length) (hy : (y : Int) < d.L) (w : List UInt8) : (rowT d (ltr y :: w)).getD q false = (rowT d w).getD ((d.nx.getD q []).getD y 0).toNat false := by
  have hL := hv.L
  have hi : InR d (q : Int) := ⟨by omega, by omega⟩
  have h1 := rowT_get (w := ltr y :: w) hi
  have h2 := rowT_get (w := w) (stepQ_inr hv hi hy)
  rw [Int.toNat_natCast] at h1
  rw [h1, runI_cons, ltr_num (by omega), ← h2]
  rfl
theorem fine_tests {d : Dfa} (hv : VD d) (hr : RedS d) {ll : List (List UInt8)} {cs : List Int} (h : TInv d (([] :: ll).take ll.length) (([] :: ll).getD ll.length []) cs) (hn : 1 < d.fin.length) {x z : Int} {ok : Bool}
    (hf : FineR d (spl cs (rowT d (([] :: ll).getD ll.length []))) (d.fin :: ll.map (rowT d)) x z ok) : (ok = false → TestsOK d ([] :: ll)) ∧
    (ok = true → ∃ y k : Nat, x = (y : Int) ∧ (y : Int) < d.L ∧ z = (k : Int) ∧ k < ll.length + 1 ∧ TInv d ([] :: ll) (ltr y :: ([] :: ll).getD k []) (spl cs (rowT d (([] :: ll).getD ll.length [])))) := by
  have e := hd_app ([] : List UInt8) ll []
  have hs := (h.split hn).1
  rw [e] at hs
  constructor
  · intro ho
    have := h.done1 hv hr hn (fun p q x hp hq hx he => hf.1 ho p q x hp hq hx he)
    rw [e] at this
    exact this
  · intro ho
    obtain ⟨p, q, y, e1, hy, hp, hq, hc, hne, hz⟩ := hf.2 ho
    have hpi := stepQ_inr hv hp hy
    have hqi := stepQ_inr hv hq hy
    rcases hz with ⟨k, e2, hk, hk2⟩ | ⟨_, hall⟩
    · have hk' : k < ll.length + 1 := by simpa using hk
      refine ⟨y, k, e1, hy, e2, hk', ?_⟩
      rw [rows_at hk', rowT_get hpi, rowT_get hqi] at hk2
      have := h.next hv hn hy (k := k) (by rw [e]; exact hk') hp hq hc (by rw [e]; exact hk2)
      rw [e] at this
      exact this
    · exfalso
      apply hne
      refine (hs.ker _ _ hpi hqi).2 (fun w hw => ?_)
      obtain ⟨i, hi, ei⟩ := mem_getD [] hw
      have hi' : i < ll.length + 1 := by simpa using hi
      have := hall i (by simpa using hi')
      rw [rows_at hi', rowT_get hpi, rowT_get hqi, ei] at this
      exact this
theorem wordsE (ll : List (List UInt8)) : (([] :: ll).take ll.length).map sv ++ (sv (([] :: ll).getD ll.length [])).cells.toList = ([] :: ll).map sv := by
  have e : (sv (([] :: ll).getD ll.length [])).cells.toList = [([] :: ll).getD ll.length []].map sv := by simp [Value.cells, sv]
  rw [e, ← List.map_append, hd_app]
theorem valsE {vF : Value} {rs : List Value} {n : Nat} (hl : rs.length = n) (hs : IsSl ((vF :: rs).getD n undef)) : (vF :: rs).take n ++ ((vF :: rs).getD n undef).cells.toList = vF :: rs := by
  subst hl
  rw [hs.cells]
  exact hd_app vF rs undef
theorem rdRow {C : Cx} {own : List Asn} {w : World} {vF : Value} {fin : List Bool} {rs : List Value} {xss : List (List Bool)} {E : TypeId} (j : Nat) (hw : HW C own w) (hF : RdL C.S Value.bool C.W0 vF fin) (hj : own[j]? = some (bigA (matG Value.bool E rs xss))) (hl : rs.length = xss.length) : ∀ i, i < xss.length + 1 → RdL (fun _ => False) Value.bool w ((vF :: rs).getD i undef) ((fin :: xss).getD i [])
  | 0, _ => hF.at hw
  | i + 1, hi => RdL.big (v := undef) j i hw hj hl (by omega)
theorem rdRows {C : Cx} {own : List Asn} {w : World} {v vF : Value} {fin : List Bool} {rs : List Value} {xss : List (List Bool)} {E E' : TypeId} {n : Nat} (i j : Nat) (hw : HW C own w) (hF : RdL C.S Value.bool C.W0 vF fin) (hn : n = xss.length + 1) (hi : own[i]? = some (row v E' 1 n (vF :: rs))) (hj : own[j]? = some (bigA (matG Value.bool E rs xss))) (hl : rs.length = xss.length) : RdLL (fun _ => False) Value.bool w v (fin :: xss) := by
  subst hn
  exact ⟨vF :: rs, by simp [hl], (RdS.own (C := C) i hi w hw).mono fun b _ _ => ⟨id, rfl⟩, fun k hk => rdRow j hw hF hj hl k (by simpa using hk)⟩
set_option maxHeartbeats 2000000 in
set_option maxRecDepth 100000 in
theorem s_tests (w : World) (v : Value) (d : Dfa) (h : RdD (fun _ => False) w v d) (hv : VD d) (hr : RedS d) : CallS Try.prog 51 [v] w (fun r o => ∃ ts, IsSl r ∧ o = [row r 9 1 ts.length (ts.map sv)] ∧ TestsOK d ts) := by
  have h0 := h
  obtain ⟨vF, vN, rfl, hF, hN⟩ := h
  have hF0 := hF
  have hN0 := hN
  obtain ⟨rs, hrl, hNr, hNi⟩ := hN
  have sF := hF.sl
  have sN := hNr.sl
  have hmf := hF.le
  have hmn := hNr.le
  unfold RdL at hF
  have hdL := hv.L
  have hdnx := hv.nx
  have hdn := hv.n
  refine spec_of Try.func51 rfl (Nat.le_of_ble_eq_true rfl) ?_
  refine AK.seq (fun _ hK1 => ?_)
  refine AK.region ?_
  refine AK.box_ (E := 25) (cs := [.int .i64 d.L, .int .i64 d.s, vF, vN]) rfl rfl rfl trivial rfl (fun bx1 => ?_)
  refine AK.val _ (Yl.assign rfl) trivial rfl ?_
  refine AK.nil ?_
  refine AK.then_ (hK1 _ ?_)
  refine AK.seq (fun _ hK2 => ?_)
  refine AK.region ?_
  refine AK.val _ (Yl.assign rfl) trivial rfl ?_
  refine AK.nil ?_
  refine AK.then_ (hK2 _ ?_)
  refine AK.seq (fun _ hK3 => ?_)
  refine AK.region ?_
  refine AK.val _ (Yl.assign rfl) trivial rfl ?_
  refine AK.nil ?_
  refine AK.then_ (hK3 _ ?_)
  refine AK.seq (fun _ hK4 => ?_)
  refine AK.region ?_
  refine AK.val _ (Yl.fieldAddr fd25_2 rfl) trivial rfl ?_
  refine AK.val _ (Yl.loadBox on22 rfl (by first | ((repeat (first | exact .hd | apply BoxS.tl | apply MapS.tl)); done) | assumption | exact BoxS.arg (by assumption)) rfl) trivial rfl ?_
  refine AK.val _ (Yl.lenR sl22 rfl (by first | exact .arg ‹_› | ((repeat (first | exact .hd | apply RdS.tl)); done) | assumption | exact .arg (hNi _ (by omega)) | exact rd_al2 4 hF rfl (by rw [List.length_map]; exact hrl2) (by rw [List.length_map]; omega) hrk (rowT_len _ _))) trivial rfl ?_
  refine AK.make1 (n := d.fin.length) sl26 el3 rfl rfl rfl (by omega) (by omega) trivial rfl (fun mv0 => ?_)
  refine AK.shape 1 rfl (fun smv0 => ?_)
  refine AK.val _ (Yl.assign rfl) trivial rfl ?_
  refine AK.nil ?_
  refine AK.then_ (hK4 _ ?_)
  refine AK.seq (fun _ hK5 => ?_)
  refine AK.quiet mixed (by kernel_rfl) ?_
  refine QK.val _ (Yl.fieldAddr fd25_2 rfl) trivial rfl ?_
  refine QK.val _ (Yl.loadBox on22 rfl (by first | ((repeat (first | exact .hd | apply BoxS.tl | apply MapS.tl)); done) | assumption | exact BoxS.arg (by assumption)) rfl) trivial rfl ?_
  refine QK.val _ (Yl.assign rfl) trivial rfl ?_
  refine QK.val _ (Yl.assign rfl) trivial rfl ?_
  refine QK.nil (QK.fin ?_)
  refine AK.then_ (hK5 _ ?_)
  refine AK.seq (fun _ hK6 => ?_)
  refine AK.block ?_
  refine AK.loopK (X := Value × Value × Value × List Value × List (List UInt8) × List Int) [(1, _)] (fun x => [(3, x.1), (4, x.2.1), (5, x.2.2.1), (6, sv (([] :: x.2.2.2.2.1).getD x.2.2.2.2.1.length [])), (7, ((vF :: x.2.2.2.1).getD x.2.2.2.2.1.length undef))]) (fun x => [box bx1 25 4 [.int .i64 d.L, .int .i64 d.s, vF, vN], row x.1 9 1 x.2.2.2.2.1.length ((([] :: x.2.2.2.2.1).take x.2.2.2.2.1.length).map sv), row x.2.1 22 1 x.2.2.2.2.1.length ((vF :: x.2.2.2.1).take x.2.2.2.2.1.length), row x.2.2.1 3 1 x.2.2.2.2.2.length (x.2.2.2.2.2.map (Value.int .i64)), bigA (matG Value.bool 4 x.2.2.2.1 (x.2.2.2.2.1.map (rowT d)))]) (fun x => TInv d (([] :: x.2.2.2.2.1).take x.2.2.2.2.1.length) (([] :: x.2.2.2.2.1).getD x.2.2.2.2.1.length []) x.2.2.2.2.2 ∧ x.2.2.2.1.length = x.2.2.2.2.1.length ∧ IsSl x.1 ∧ IsSl x.2.1 ∧ IsSl x.2.2.1 ∧ IsSl ((vF :: x.2.2.2.1).getD x.2.2.2.2.1.length undef)) (fun x => d.fin.length - x.2.2.2.2.1.length) ((.slice none 0 0, .slice none 0 0, mv0, [], [], List.replicate d.fin.length 0)) (.cons rfl (.nil)) ?_ ?_ ?_ ?_
  · exact ⟨TInv.zero hv hr, rfl, nilSl, nilSl, smv0, sF⟩
  · exact .cons (rfl) (.cons (rfl) (.cons (rfl) (.cons (rfl) (.cons (rfl) (.nil)))))
  · exact fun w hw => by have h1 := (((hw.ghost 9 1).ghost 22 1).ghostG (f := Value.bool) 4).pick [0, 2, 3, 1, 4] (by decide) rfl rfl; dsimp only; rw [List.length_replicate, List.map_replicate]; exact h1
  · intro x hg0 _ hK7
    obtain ⟨wv, av, cv, rs, ll, cs⟩ := x
    dsimp only at *
    obtain ⟨htv, hrl2, swv, sav, scv, hsr⟩ := hg0
    have hcl := htv.ker.len
    have hwl := hd_len ([] : List UInt8) ll
    have hcn := htv.cnt
    have hce := cnt_le htv.ker
    have hlb : ll.length + 1 ≤ d.fin.length := by omega
    have hvl : ((vF :: rs).take ll.length).length = ll.length := by rw [← hrl2]; exact hd_len vF rs
    refine AK.seq (fun _ hK8 => ?_)
    refine AK.seq (fun _ hK9 => ?_)
    refine AK.region ?_
    refine AK.val _ (Yl.move rfl) trivial rfl ?_
    refine AK.val _ (Yl.lenR sl49 rfl (by first | exact .arg ‹_› | ((repeat (first | exact .hd | apply RdS.tl)); done) | assumption | exact .arg (hNi _ (by omega)) | exact rd_al2 4 hF rfl (by rw [List.length_map]; exact hrl2) (by rw [List.length_map]; omega) hrk (rowT_len _ _))) trivial rfl ?_
    refine AK.val _ (Yl.add rfl rfl (by omega)) trivial rfl ?_
    refine AK.val _ (Yl.fieldAddr fd25_2 rfl) trivial rfl ?_
    refine AK.val _ (Yl.loadBox on22 rfl (by first | ((repeat (first | exact .hd | apply BoxS.tl | apply MapS.tl)); done) | assumption | exact BoxS.arg (by assumption)) rfl) trivial rfl ?_
    refine AK.val _ (Yl.lenR sl22 rfl (by first | exact .arg ‹_› | ((repeat (first | exact .hd | apply RdS.tl)); done) | assumption | exact .arg (hNi _ (by omega)) | exact rd_al2 4 hF rfl (by rw [List.length_map]; exact hrl2) (by rw [List.length_map]; omega) hrk (rowT_len _ _))) trivial rfl ?_
    refine AK.val _ (Yl.lss rfl rfl) trivial rfl ?_
    refine AK.nil ?_
    refine AK.then_ (hK9 _ ?_)
    refine AK.condD rfl (fun hc0 => ?_) (fun hc0 => ?_)
    · have hn1 : 1 < d.fin.length := by omega
      have hrow := rows_at (d := d) (l := ll) (i := ll.length) (by omega)
      have hspl : (spl cs (rowT d (([] :: ll).getD ll.length []))).length = cs.length := by rw [spl, canN_len, List.length_zip, rowT_len, hcl, Nat.min_self]
      have htok := htv.tok
      have hrw0 : ∀ l ∈ d.fin :: ll.map (rowT d), l.length = d.fin.length := fun l hl => by rcases List.mem_cons.1 hl with rfl | hl; rfl; obtain ⟨a, _, rfl⟩ := List.mem_map.1 hl; exact rowT_len _ _
      refine AK.skip ?_
      refine AK.then_ (hK8 _ ?_)
      refine AK.block ?_
      refine AK.seq (fun _ hK10 => ?_)
      refine AK.region ?_
      refine AK.val _ (Yl.move rfl) trivial rfl ?_
      refine AK.val _ (Yl.move rfl) trivial rfl ?_
      refine AK.append1 1 rfl sl49 el9 rfl (by decide) rfl (by intro k hk; cases hk; rfl) rfl (by intro u hu; simp [Value.cells, sv] at hu; subst hu; rfl) (by omega) (by omega) (by decide) rfl rfl (fun wv2 _ hwv2 => ?_)
      refine AK.val _ (Yl.move rfl) trivial rfl ?_
      refine AK.val _ (Yl.move rfl) trivial rfl ?_
      refine AK.append1 2 rfl sl88 el22 rfl (by decide) rfl (by intro k hk; cases hk; rfl) (by rw [hsr.cells]; rfl) (by rw [hsr.cells]; exact one'_cons hsr.one one'_nil) (by omega) (by omega) (by decide) rfl rfl (fun av2 _ hav2 => ?_)
      refine AK.val _ (Yl.assign rfl) trivial rfl ?_
      refine AK.val _ (Yl.assign rfl) trivial rfl ?_
      refine AK.nil ?_
      refine AK.then_ (hK10 _ ?_)
      refine AK.seq (fun _ hK11 => ?_)
      refine AK.region ?_
      refine AK.val _ (Yl.move rfl) trivial rfl ?_
      refine AK.val _ (Yl.move rfl) trivial rfl ?_
      refine AK.own' [box bx1 25 4 [.int .i64 d.L, .int .i64 d.s, vF, vN], row wv2 9 1 (ll.length + 1) (([] :: ll).map sv), row av2 22 1 (ll.length + 1) (vF :: rs), row cv 3 1 cs.length (cs.map (Value.int .i64)), bigA (matG Value.bool 4 rs (ll.map (rowT d)))] (fun w hw => by rw [wordsE, valsE hrl2 hsr] at hw; exact hw) ?_
      refine AK.call co55 rfl (fun w hw => s_split w _ _ cs (rowT d (([] :: ll).getD ll.length [])) (RdL.own 3 hw rfl) (by rw [← hrow]; exact rdRow 4 hw hF0 rfl (by rw [List.length_map]; exact hrl2) ll.length (by rw [List.length_map]; omega)) (by rw [rowT_len]; exact hcl.symm) (by omega)) trivial rfl ?_
      rintro cv2 o ⟨scv2, rfl⟩
      refine AK.val _ (Yl.assign rfl) trivial rfl ?_
      refine AK.nil ?_
      refine AK.then_ (hK11 _ ?_)
      refine AK.seq (fun _ hK12 => ?_)
      refine AK.region ?_
      refine AK.val _ (Yl.loadBoxG ag25 rfl (by first | ((repeat (first | exact .hd | apply BoxS.tl | apply MapS.tl)); done) | assumption | exact BoxS.arg (by assumption)) rfl rfl) trivial rfl ?_
      refine AK.val _ (Yl.move rfl) trivial rfl ?_
      refine AK.val _ (Yl.move rfl) trivial rfl ?_
      refine AK.call co56 rfl (fun w hw => s_finer w _ d (h0.at hw) hv _ (spl cs (rowT d (([] :: ll).getD ll.length []))) (RdL.ownE 5 hw rfl hspl.symm rfl) (hspl.trans hcl) (canN_canN _) _ (d.fin :: ll.map (rowT d)) (rdRows 2 4 hw hF0 (by rw [List.length_map]) rfl rfl (by rw [List.length_map]; exact hrl2)) hrw0) trivial rfl ?_
      rintro r o ⟨fx, fz, fb, rfl, hfine, rfl⟩
      refine AK.val _ (Yl.move rfl) trivial rfl ?_
      refine AK.val _ (Yl.extract rfl rfl) trivial rfl ?_
      refine AK.val _ (Yl.extract rfl rfl) trivial rfl ?_
      refine AK.val _ (Yl.extract rfl rfl) trivial rfl ?_
      refine AK.val _ (Yl.assign rfl) trivial rfl ?_
      refine AK.val _ (Yl.assign rfl) trivial rfl ?_
      refine AK.val _ (Yl.assign rfl) trivial rfl ?_
      refine AK.nil ?_
      refine AK.then_ (hK12 _ ?_)
      refine AK.seq (fun _ hK13 => ?_)
      refine AK.seq (fun _ hK14 => ?_)
      refine AK.region ?_
      refine AK.val _ (Yl.move rfl) trivial rfl ?_
      refine AK.val _ (Yl.not rfl) trivial rfl ?_
      refine AK.nil ?_
      refine AK.then_ (hK14 _ ?_)
      refine AK.condB rfl (fun hc1 => ?_) (fun hc1 => ?_)
      · have hts := (fine_tests hv hr htv hn1 hfine).1 (by simpa using hc1)
        refine AK.exit ?_
        refine AK.then_exit ?_
        refine AK.block_other rfl ?_
        refine AK.then_exit ?_
        refine AK.block_exit ?_
        refine AK.then_ (hK6 _ ?_)
        refine AK.seq (fun _ hK15 => ?_)
        refine AK.region ?_
        refine AK.val _ (Yl.move rfl) trivial rfl ?_
        refine AK.val _ (Yl.assign rfl) trivial rfl ?_
        refine AK.nil ?_
        refine AK.then_ (hK15 _ ?_)
        refine AK.ret ?_
        refine AK.ret1 rfl rfl (fun w hw => ⟨_, _, ?_, rfl, Ret.of (hw.pick [1] (by decide) rfl rfl)⟩)
        first | exact ⟨[] :: ll, hwv2, rfl, hts⟩ | exact ⟨(([] :: ll).take ll.length), swv, by rw [hd_len]; rfl, htv.done0 hv (by rw [hd_len]; omega)⟩
      · obtain ⟨y, k, rfl, hy, rfl, hk, hti⟩ := (fine_tests hv hr htv hn1 hfine).2 (by simpa using hc1)
        have hkl := hti.tok.2
        rw [List.length_cons, List.length_cons] at hkl
        refine AK.skip ?_
        refine AK.then_ (hK13 _ ?_)
        refine AK.seq (fun _ hK16 => ?_)
        refine AK.joinK (X := Value) [(1, _), (3, _), (4, _), (5, _), (8, _), (9, _)] (fun mw => [(6, sv (ltr y :: ([] :: ll).getD k [])), (7, mw)]) (fun mw => [box bx1 25 4 [.int .i64 d.L, .int .i64 d.s, vF, vN], row wv2 9 1 (ll.length + 1) (([] :: ll).map sv), row av2 22 1 (ll.length + 1) (vF :: rs), row cv 3 1 cs.length (cs.map (Value.int .i64)), bigA (matG Value.bool 4 rs (ll.map (rowT d))), row cv2 3 1 cs.length ((spl cs (rowT d (([] :: ll).getD ll.length []))).map (Value.int .i64)), row mw 4 1 d.fin.length (List.replicate d.fin.length (Value.bool false))]) (fun mw => IsSl mw) (.cons rfl (.cons rfl (.cons rfl (.cons rfl (.cons rfl (.cons rfl (.nil))))))) (fun _ hJ => ?_) (fun mw hg => ?_)
        · try (conv => enter [2, 2]; dsimp only [List.set_cons_zero, List.set_cons_succ, List.cons_append, List.nil_append])
          refine AK.held 15 mixed ?_
          refine HeldK.first 0 (fuel := 14) (listed' := #[true, false, false, false, false, false, false, false, false, false, false, false, false, false, false]) _ rfl (by kernel_rfl) rfl rfl (Yl.move rfl) trivial rfl ?_
          refine HeldK.first 1 (fuel := 13) (listed' := #[true, true, false, false, false, false, false, false, false, false, false, false, false, false, false]) _ rfl (by kernel_rfl) rfl rfl (Yl.add rfl rfl (by omega)) trivial rfl ?_
          refine HeldK.first 2 (fuel := 12) (listed' := #[true, true, true, false, false, false, false, false, false, false, false, false, false, false, false]) _ rfl (by kernel_rfl) rfl rfl (Yl.convI (by kernel_rfl) un21 rfl (wrap_i32 (by omega))) trivial rfl ?_
          refine HeldK.first 3 (fuel := 11) (listed' := #[true, true, true, true, false, false, false, false, false, false, false, false, false, false, false]) _ rfl (by kernel_rfl) rfl rfl (Yl.runeS (by kernel_rfl) un9 rfl (by omega)) trivial rfl ?_
          refine HeldK.first 4 (fuel := 10) (listed' := #[true, true, true, true, true, false, false, false, false, false, false, false, false, false, false]) _ rfl (by kernel_rfl) rfl rfl (Yl.move rfl) trivial rfl ?_
          refine HeldK.first 5 (fuel := 9) (listed' := #[true, true, true, true, true, true, false, false, false, false, false, false, false, false, false]) _ rfl (by kernel_rfl) rfl rfl (Yl.move rfl) trivial rfl ?_
          first | refine HeldK.first 6 (fuel := 8) (listed' := #[true, true, true, true, true, true, true, false, false, false, false, false, false, false, false]) _ rfl (by kernel_rfl) rfl rfl (Yl.idxN sl49 rfl rfl (by first | exact .arg ‹_› | ((repeat (first | exact .hd | apply RdS.tl)); done) | assumption | exact .arg (hNi _ (by omega)) | exact rd_al2 4 hF rfl (by rw [List.length_map]; exact hrl2) (by rw [List.length_map]; omega) hrk (rowT_len _ _)) (by decide) (by omega)) trivial rfl ?_ | refine HeldK.first 6 (fuel := 8) (listed' := #[true, true, true, true, true, true, true, false, false, false, false, false, false, false, false]) _ rfl (by kernel_rfl) rfl rfl (Yl.idx sl49 rfl rfl (by first | exact .arg ‹_› | ((repeat (first | exact .hd | apply RdS.tl)); done) | assumption | exact .arg (hNi _ (by omega)) | exact rd_al2 4 hF rfl (by rw [List.length_map]; exact hrl2) (by rw [List.length_map]; omega) hrk (rowT_len _ _)) (by decide) (by omega)) trivial rfl ?_ | refine HeldK.first 6 (fuel := 8) (listed' := #[true, true, true, true, true, true, true, false, false, false, false, false, false, false, false]) _ rfl (by kernel_rfl) rfl rfl (Yl.idxK sl49 rfl rfl (by first | exact .arg ‹_› | ((repeat (first | exact .hd | apply RdS.tl)); done) | assumption | exact .arg (hNi _ (by omega)) | exact rd_al2 4 hF rfl (by rw [List.length_map]; exact hrl2) (by rw [List.length_map]; omega) hrk (rowT_len _ _)) (by decide) (by omega)) trivial rfl ?_
          refine HeldK.first 7 (fuel := 7) (listed' := #[true, true, true, true, true, true, true, true, false, false, false, false, false, false, false]) _ rfl (by kernel_rfl) rfl rfl (Yl.loadS on9 rfl (by first | exact .arg ‹_› | ((repeat (first | exact .hd | apply RdS.tl)); done) | assumption | exact .arg (hNi _ (by omega)) | exact rd_al2 4 hF rfl (by rw [List.length_map]; exact hrl2) (by rw [List.length_map]; omega) hrk (rowT_len _ _)) (by omega)) trivial rfl ?_
          refine HeldK.first 8 (fuel := 6) (listed' := #[true, true, true, true, true, true, true, true, true, false, false, false, false, false, false]) _ rfl (by kernel_rfl) rfl rfl (Yl.concat rfl rfl (by simp only [List.length_cons, List.length_nil]; omega)) trivial rfl ?_
          refine HeldK.first 9 (fuel := 5) (listed' := #[true, true, true, true, true, true, true, true, true, true, false, false, false, false, false]) _ rfl (by kernel_rfl) rfl rfl (Yl.fieldAddr fd25_2 rfl) trivial rfl ?_
          refine HeldK.first 10 (fuel := 4) (listed' := #[true, true, true, true, true, true, true, true, true, true, true, false, false, false, false]) _ rfl (by kernel_rfl) rfl rfl (Yl.loadBox on22 rfl (by first | ((repeat (first | exact .hd | apply BoxS.tl | apply MapS.tl)); done) | assumption | exact BoxS.arg (by assumption)) rfl) trivial rfl ?_
          refine HeldK.first 11 (fuel := 3) (listed' := #[true, true, true, true, true, true, true, true, true, true, true, true, false, false, false]) _ rfl (by kernel_rfl) rfl rfl (Yl.lenR sl22 rfl (by first | exact .arg ‹_› | ((repeat (first | exact .hd | apply RdS.tl)); done) | assumption | exact .arg (hNi _ (by omega)) | exact rd_al2 4 hF rfl (by rw [List.length_map]; exact hrl2) (by rw [List.length_map]; omega) hrk (rowT_len _ _))) trivial rfl ?_
          refine HeldK.first 13 (fuel := 2) (listed' := #[true, true, true, true, true, true, true, true, true, true, true, true, false, true, false]) _ rfl (by kernel_rfl) rfl rfl (Yl.assign rfl) trivial rfl ?_
          refine HeldK.one 12 (fuel := 1) (listed' := #[true, true, true, true, true, true, true, true, true, true, true, true, true, true, false]) (by kernel_rfl) rfl rfl ?_
          refine AK.make1 (n := d.fin.length) sl22 el4 rfl rfl rfl (by omega) (by omega) trivial rfl (fun mv => ?_)
          refine AK.shape 6 rfl (fun smv => ?_)
          refine AK.nil ?_
          try (conv => enter [2, 2]; dsimp only [List.set_cons_zero, List.set_cons_succ, List.cons_append, List.nil_append])
          refine HeldK.back (by repeat (first | exact HWle.nil | refine HWle.cons Ale.rfl ?_ | refine HWle.cons Ale.fst ?_)) ?_
          refine HeldK.first 14 (fuel := 0) (listed' := #[true, true, true, true, true, true, true, true, true, true, true, true, true, true, true]) _ rfl (by kernel_rfl) rfl rfl (Yl.assign rfl) trivial rfl ?_
          refine HeldK.done (by kernel_rfl) ?_
          exact hJ _ _ (mv) smv (.cons (show some (sv ([UInt8.ofNat (97 + (y : Int)).toNat] ++ ([] :: ll).getD k [])) = some (sv (ltr y :: ([] :: ll).getD k [])) from by rw [ofNat_ltr (by omega)]; rfl) (.cons (rfl) (.cons rfl (.cons rfl (.cons rfl (.cons rfl (.cons rfl (.cons rfl (.nil))))))))) (fun w hw => by first | (refine hw.pickLe [0, 1, 2, 3, 4, 5, 6] (by decide) ?_; (repeat (first | exact PickLe.nil | refine PickLe.cons rfl Ale.rfl ?_ | refine PickLe.cons rfl Ale.snd ?_ | refine PickLe.cons rfl Ale.fst ?_)); done))
        · skip
          refine AK.then_ (hK16 _ ?_)
          refine AK.seq (fun _ hK17 => ?_)
          refine AK.region ?_
          refine AK.val _ (Yl.move rfl) trivial rfl ?_
          refine AK.val _ (Yl.lenR sl22 rfl (by first | exact .arg ‹_› | ((repeat (first | exact .hd | apply RdS.tl)); done) | assumption | exact .arg (hNi _ (by omega)) | exact rd_al2 4 hF rfl (by rw [List.length_map]; exact hrl2) (by rw [List.length_map]; omega) hrk (rowT_len _ _))) trivial rfl ?_
          refine AK.val _ (Yl.move rfl) trivial rfl ?_
          refine AK.nil ?_
          refine AK.then_ (hK17 _ ?_)
          refine AK.block ?_
          refine AK.loopK (X := Nat) [(1, _), (3, _), (4, _), (5, _), (6, _), (7, _), (8, _), (9, _), (60, _)] (fun q => [(61, .int .i64 (q : Int))]) (fun q => [box bx1 25 4 [.int .i64 d.L, .int .i64 d.s, vF, vN], row wv2 9 1 (ll.length + 1) (([] :: ll).map sv), row av2 22 1 (ll.length + 1) (vF :: rs), row cv 3 1 cs.length (cs.map (Value.int .i64)), bigA (matG Value.bool 4 rs (ll.map (rowT d))), row cv2 3 1 cs.length ((spl cs (rowT d (([] :: ll).getD ll.length []))).map (Value.int .i64)), row mw 4 1 d.fin.length (((rowT d (ltr y :: ([] :: ll).getD k [])).take q ++ List.replicate (d.fin.length - q) false).map Value.bool)]) (fun q => q ≤ d.fin.length) (fun q => d.fin.length - q) (0) (.cons rfl (.cons rfl (.cons rfl (.cons rfl (.cons rfl (.cons rfl (.cons rfl (.cons rfl (.cons rfl (.nil)))))))))) ?_ ?_ ?_ ?_
          · exact Nat.zero_le _
          · exact .cons (rfl) (.nil)
          · exact fun w hw => by have e : (((rowT d (ltr y :: ([] :: ll).getD k [])).take 0 ++ List.replicate (d.fin.length - 0) false).map Value.bool) = List.replicate d.fin.length (Value.bool false) := (by simp); rw [e]; exact hw
          · intro q hg1 _ hK18
            refine AK.seq (fun _ hK19 => ?_)
            refine AK.region ?_
            refine AK.val _ (Yl.lss rfl rfl) trivial rfl ?_
            refine AK.nil ?_
            refine AK.then_ (hK19 _ ?_)
            refine AK.seq (fun _ hK20 => ?_)
            refine AK.condD rfl (fun hc2 => ?_) (fun hc2 => ?_)
            · have hvr : (vF :: rs).length = ll.length + 1 := by rw [List.length_cons, hrl2]
              have hrtl := rowT_len d (([] :: ll).getD k [])
              have hrk := rows_at (d := d) (l := ll) (i := k) hk
              have hrwq := hv.row q (by omega)
              have hto := hv.to q y (by omega) (by omega)
              have hnew := rowT_cons hv (q := q) (by omega) hy (([] :: ll).getD k [])
              refine AK.skip ?_
              refine AK.then_ (hK20 _ ?_)
              refine AK.seq (fun _ hK21 => ?_)
              refine AK.block ?_
              refine AK.seq (fun _ hK22 => ?_)
              refine AK.region ?_
              refine AK.val _ (Yl.move rfl) trivial rfl ?_
              refine AK.val _ (Yl.assign rfl) trivial rfl ?_
              refine AK.nil ?_
              refine AK.then_ (hK22 _ ?_)
              refine AK.stillTail 17 mixed (by kernel_rfl) (fun _ hws => ?_)
              refine SK.val hws _ (Yl.move rfl) trivial rfl ?_
              refine SK.val hws _ (Yl.move rfl) trivial rfl ?_
              refine SK.val hws _ (Yl.move rfl) trivial rfl ?_
              refine SK.val hws _ (Yl.move rfl) trivial rfl ?_
              first | refine SK.val hws _ (Yl.idxN sl88 rfl rfl (by first | exact .arg ‹_› | ((repeat (first | exact .hd | apply RdS.tl)); done) | assumption | exact .arg (hNi _ (by omega)) | exact rd_al2 4 hF rfl (by rw [List.length_map]; exact hrl2) (by rw [List.length_map]; omega) hrk (rowT_len _ _)) (by decide) (by omega)) trivial rfl ?_ | refine SK.val hws _ (Yl.idx sl88 rfl rfl (by first | exact .arg ‹_› | ((repeat (first | exact .hd | apply RdS.tl)); done) | assumption | exact .arg (hNi _ (by omega)) | exact rd_al2 4 hF rfl (by rw [List.length_map]; exact hrl2) (by rw [List.length_map]; omega) hrk (rowT_len _ _)) (by decide) (by omega)) trivial rfl ?_ | refine SK.val hws _ (Yl.idxK sl88 rfl rfl (by first | exact .arg ‹_› | ((repeat (first | exact .hd | apply RdS.tl)); done) | assumption | exact .arg (hNi _ (by omega)) | exact rd_al2 4 hF rfl (by rw [List.length_map]; exact hrl2) (by rw [List.length_map]; omega) hrk (rowT_len _ _)) (by decide) (by omega)) trivial rfl ?_
              refine SK.val hws _ (Yl.loadV on22 rfl (by first | exact .arg ‹_› | ((repeat (first | exact .hd | apply RdS.tl)); done) | assumption | exact .arg (hNi _ (by omega)) | exact rd_al2 4 hF rfl (by rw [List.length_map]; exact hrl2) (by rw [List.length_map]; omega) hrk (rowT_len _ _)) (by omega)) trivial rfl ?_
              refine SK.val hws _ (Yl.fieldAddr fd25_3 rfl) trivial rfl ?_
              refine SK.val hws _ (Yl.loadBox on23 rfl (by first | ((repeat (first | exact .hd | apply BoxS.tl | apply MapS.tl)); done) | assumption | exact BoxS.arg (by assumption)) rfl) trivial rfl ?_
              refine SK.val hws _ (Yl.move rfl) trivial rfl ?_
              first | refine SK.val hws _ (Yl.idxN sl23 rfl rfl (by first | exact .arg ‹_› | ((repeat (first | exact .hd | apply RdS.tl)); done) | assumption | exact .arg (hNi _ (by omega)) | exact rd_al2 4 hF rfl (by rw [List.length_map]; exact hrl2) (by rw [List.length_map]; omega) hrk (rowT_len _ _)) (by decide) (by omega)) trivial rfl ?_ | refine SK.val hws _ (Yl.idx sl23 rfl rfl (by first | exact .arg ‹_› | ((repeat (first | exact .hd | apply RdS.tl)); done) | assumption | exact .arg (hNi _ (by omega)) | exact rd_al2 4 hF rfl (by rw [List.length_map]; exact hrl2) (by rw [List.length_map]; omega) hrk (rowT_len _ _)) (by decide) (by omega)) trivial rfl ?_ | refine SK.val hws _ (Yl.idxK sl23 rfl rfl (by first | exact .arg ‹_› | ((repeat (first | exact .hd | apply RdS.tl)); done) | assumption | exact .arg (hNi _ (by omega)) | exact rd_al2 4 hF rfl (by rw [List.length_map]; exact hrl2) (by rw [List.length_map]; omega) hrk (rowT_len _ _)) (by decide) (by omega)) trivial rfl ?_
              refine SK.val hws _ (Yl.loadV on26 rfl (by first | exact .arg ‹_› | ((repeat (first | exact .hd | apply RdS.tl)); done) | assumption | exact .arg (hNi _ (by omega)) | exact rd_al2 4 hF rfl (by rw [List.length_map]; exact hrl2) (by rw [List.length_map]; omega) hrk (rowT_len _ _)) (by omega)) trivial rfl ?_
              refine SK.val hws _ (Yl.move rfl) trivial rfl ?_
              first | refine SK.val hws _ (Yl.idxN sl26 rfl rfl (by first | exact .arg ‹_› | ((repeat (first | exact .hd | apply RdS.tl)); done) | assumption | exact .arg (hNi _ (by omega)) | exact rd_al2 4 hF rfl (by rw [List.length_map]; exact hrl2) (by rw [List.length_map]; omega) hrk (rowT_len _ _)) (by decide) (by omega)) trivial rfl ?_ | refine SK.val hws _ (Yl.idx sl26 rfl rfl (by first | exact .arg ‹_› | ((repeat (first | exact .hd | apply RdS.tl)); done) | assumption | exact .arg (hNi _ (by omega)) | exact rd_al2 4 hF rfl (by rw [List.length_map]; exact hrl2) (by rw [List.length_map]; omega) hrk (rowT_len _ _)) (by decide) (by omega)) trivial rfl ?_ | refine SK.val hws _ (Yl.idxK sl26 rfl rfl (by first | exact .arg ‹_› | ((repeat (first | exact .hd | apply RdS.tl)); done) | assumption | exact .arg (hNi _ (by omega)) | exact rd_al2 4 hF rfl (by rw [List.length_map]; exact hrl2) (by rw [List.length_map]; omega) hrk (rowT_len _ _)) (by decide) (by omega)) trivial rfl ?_
              refine SK.val hws _ (Yl.loadI on3 rfl (by first | exact .arg ‹_› | ((repeat (first | exact .hd | apply RdS.tl)); done) | assumption | exact .arg (hNi _ (by omega)) | exact rd_al2 4 hF rfl (by rw [List.length_map]; exact hrl2) (by rw [List.length_map]; omega) hrk (rowT_len _ _)) (by omega)) trivial rfl ?_
              first | refine SK.val hws _ (Yl.idxN sl22 rfl rfl (by first | exact .arg ‹_› | ((repeat (first | exact .hd | apply RdS.tl)); done) | assumption | exact .arg (hNi _ (by omega)) | exact rd_al2 4 hF rfl (by rw [List.length_map]; exact hrl2) (by rw [List.length_map]; omega) hrk (rowT_len _ _)) (by decide) (by omega)) trivial rfl ?_ | refine SK.val hws _ (Yl.idx sl22 rfl rfl (by first | exact .arg ‹_› | ((repeat (first | exact .hd | apply RdS.tl)); done) | assumption | exact .arg (hNi _ (by omega)) | exact rd_al2 4 hF rfl (by rw [List.length_map]; exact hrl2) (by rw [List.length_map]; omega) hrk (rowT_len _ _)) (by decide) (by omega)) trivial rfl ?_ | refine SK.val hws _ (Yl.idxK sl22 rfl rfl (by first | exact .arg ‹_› | ((repeat (first | exact .hd | apply RdS.tl)); done) | assumption | exact .arg (hNi _ (by omega)) | exact rd_al2 4 hF rfl (by rw [List.length_map]; exact hrl2) (by rw [List.length_map]; omega) hrk (rowT_len _ _)) (by decide) (by omega)) trivial rfl ?_
              refine SK.val hws _ (Yl.loadB on4 rfl (by first | exact .arg ‹_› | ((repeat (first | exact .hd | apply RdS.tl)); done) | assumption | exact .arg (hNi _ (by omega)) | exact rd_al2 4 hF rfl (by rw [List.length_map]; exact hrl2) (by rw [List.length_map]; omega) hrk (rowT_len _ _)) (by omega)) trivial rfl ?_
              first | refine SK.val hws _ (Yl.idxN sl22 rfl rfl (by first | exact .arg ‹_› | ((repeat (first | exact .hd | apply RdS.tl)); done) | assumption | exact .arg (hNi _ (by omega)) | exact rd_al2 4 hF rfl (by rw [List.length_map]; exact hrl2) (by rw [List.length_map]; omega) hrk (rowT_len _ _)) (by decide) (by omega)) trivial rfl ?_ | refine SK.val hws _ (Yl.idx sl22 rfl rfl (by first | exact .arg ‹_› | ((repeat (first | exact .hd | apply RdS.tl)); done) | assumption | exact .arg (hNi _ (by omega)) | exact rd_al2 4 hF rfl (by rw [List.length_map]; exact hrl2) (by rw [List.length_map]; omega) hrk (rowT_len _ _)) (by decide) (by omega)) trivial rfl ?_ | refine SK.val hws _ (Yl.idxK sl22 rfl rfl (by first | exact .arg ‹_› | ((repeat (first | exact .hd | apply RdS.tl)); done) | assumption | exact .arg (hNi _ (by omega)) | exact rd_al2 4 hF rfl (by rw [List.length_map]; exact hrl2) (by rw [List.length_map]; omega) hrk (rowT_len _ _)) (by decide) (by omega)) trivial rfl ?_
              refine SK.nil (SK.fin hws ?_)
              refine AK.store1e 6 rfl sz4 rfl rfl rfl rfl (by omega) (cs' := (((rowT d (ltr y :: ([] :: ll).getD k [])).take (q + 1) ++ List.replicate (d.fin.length - (q + 1)) false).map Value.bool)) (by rw [take_snocD false (rowT d (ltr y :: ([] :: ll).getD k [])) q (by rw [rowT_len]; omega), hnew]; exact fill_set Value.bool _ false _ d.fin.length q (by rw [List.length_take, rowT_len]; omega) (by omega)) trivial ?_
              refine AK.nil ?_
              refine AK.block_normal ?_
              refine AK.then_ (hK21 _ ?_)
              refine AK.region ?_
              refine AK.val _ (Yl.add rfl rfl (by omega)) trivial rfl ?_
              refine AK.val _ (Yl.move rfl) trivial rfl ?_
              refine AK.nil ?_
              refine AK.then_ (hK18 _ _ (q + 1) (by omega) (by omega) (.cons (rfl) (.cons rfl (.cons rfl (.cons rfl (.cons rfl (.cons rfl (.cons rfl (.cons rfl (.cons rfl (.cons rfl (.nil))))))))))) (fun w hw => hw))
            · refine AK.exit ?_
              refine AK.then_exit ?_
              refine AK.then_exit ?_
              refine AK.block_exit ?_
              refine AK.block_normal ?_
              refine AK.then_ (hK7 _ _ ((wv2, av2, cv2, rs ++ [mw], ll ++ [(ltr y :: ([] :: ll).getD k [])], (spl cs (rowT d (([] :: ll).getD ll.length []))))) ⟨by dsimp only; rw [hd_next, hd_nextT]; exact hti, by dsimp only; rw [List.length_append, List.length_append, hrl2]; rfl, hwv2, hav2, scv2, by dsimp only; rw [show (ll ++ [(ltr y :: ([] :: ll).getD k [])]).length = (rs ++ [mw]).length by rw [List.length_append, List.length_append, hrl2]; rfl, hd_nextT]; exact hg⟩ (by dsimp only; rw [List.length_append]; simp only [List.length_cons, List.length_nil]; omega) (.cons (rfl) (.cons (rfl) (.cons (rfl) (.cons (by dsimp only; rw [hd_nextT]; rfl) (.cons (by dsimp only; rw [show (ll ++ [(ltr y :: ([] :: ll).getD k [])]).length = (rs ++ [mw]).length by rw [List.length_append, List.length_append, hrl2]; rfl, hd_nextT]; rfl) (.cons rfl (.nil))))))) (fun w hw => by have e3 : (ll ++ [(ltr y :: ([] :: ll).getD k [])]).map (rowT d) = ll.map (rowT d) ++ [rowT d (ltr y :: ([] :: ll).getD k [])] := (by rw [List.map_append]; rfl); have e4 : (ll ++ [(ltr y :: ([] :: ll).getD k [])]).length = ll.length + 1 := (by rw [List.length_append]; rfl); have e5 : (vF :: (rs ++ [mw])).take (ll ++ [(ltr y :: ([] :: ll).getD k [])]).length = vF :: rs := (by rw [show (ll ++ [(ltr y :: ([] :: ll).getD k [])]).length = (rs ++ [mw]).length by rw [List.length_append, List.length_append, hrl2]; rfl, hd_next]); dsimp only; rw [e5, hd_next, e4, e3, matG_snoc (by rw [List.length_map]; exact hrl2), rowT_len, hspl]; rw [show q = d.fin.length by omega, Nat.sub_self, List.replicate_zero, List.append_nil, List.take_of_length_le (by rw [rowT_len]; exact Nat.le_refl _)] at hw; exact HW.absorb (own := [_, _, _, _, _]) 4 rfl (hw.pick [0, 1, 2, 5, 4, 6] (by decide) rfl rfl)))
    · refine AK.exit ?_
      refine AK.then_exit ?_
      refine AK.then_exit ?_
      refine AK.block_exit ?_
      refine AK.then_ (hK6 _ ?_)
      refine AK.seq (fun _ hK23 => ?_)
      refine AK.region ?_
      refine AK.val _ (Yl.move rfl) trivial rfl ?_
      refine AK.val _ (Yl.assign rfl) trivial rfl ?_
      refine AK.nil ?_
      refine AK.then_ (hK23 _ ?_)
      refine AK.ret ?_
      refine AK.ret1 rfl rfl (fun w hw => ⟨_, _, ?_, rfl, Ret.of (hw.pick [1] (by decide) rfl rfl)⟩)
      first | exact ⟨[] :: ll, hwv2, rfl, hts⟩ | exact ⟨(([] :: ll).take ll.length), swv, by rw [hd_len]; rfl, htv.done0 hv (by rw [hd_len]; omega)⟩

end Go.Proofs.Ytoikhoniogicdaa

set_option linter.unusedVariables false
set_option linter.unusedSimpArgs false
namespace Go.Proofs.Ytoikhoniogicdaa
open Go.Sx Go.RowKit
theorem opvs_evalF {C : Cx} {sl : List (Nat × Value)} {own : List Asn} {a : Act} (h : SimF C sl a) : ∀ {xs : List Operand} {vs : List Value}, opvs ⟨sl, own⟩ xs = some vs → xs.map a.eval = vs
  | [], vs, hx => by simp [opvs] at hx; simp [hx]
  | x :: l, vs, hx => by
    simp only [opvs] at hx
    cases h1 : opv ⟨sl, own⟩ x with
    | none => simp [h1] at hx
    | some v =>
      cases h2 : opvs ⟨sl, own⟩ l with
      | none => simp [h1, h2] at hx
      | some us =>
        simp [h1, h2] at hx
        subst hx
        simp [opv_evalF h h1, opvs_evalF h h2]
/-- a struct put together out of slots, whatever the memory is -/
theorem PY.build {C : Cx} {sl : List (Nat × Value)} {dst : Option Nat} {ty : TypeId} {pos : String} {aft : Array Edge} {g : Option (Nat × Bool)} {t : Nat} {parts : List (Nat × Operand)} {vs : List Value} {cs : Array Value} (hx : opvs ⟨sl, []⟩ (parts.map (·.2)) = some vs) (hb : C.P.built t ((parts.map (·.1)).zip vs) = some cs) :
    PY C sl ⟨dst, .build t parts.toArray, ty, pos, aft, g⟩ (.agg cs) :=
  fun a w hs => by
    have he := opvs_evalF hs hx
    have hp : (parts.toArray.map fun x => (x.1, a.eval x.2)) = ((parts.map (·.1)).zip vs).toArray := by
      rw [← he]; clear hx he hb
      simp
      induction parts with
      | nil => rfl
      | cons p l ih => simp [ih]
    have := run_build (P := C.P) w t ((parts.map (·.1)).zip vs).toArray cs (by simpa using hb)
    have hp' : (parts.toArray.map fun x => match x with | (i, x) => (i, a.eval x)) = ((parts.map (·.1)).zip vs).toArray := hp
    simp only [execOp, hp', Sem.run_bind, this, Result.andThen_ok, Sem.run_pure]
def MapV (d : Dfa) : List Int := if VD d then mapM d else []
def AccX (d : Dfa) : List (List UInt8) := if VD d then AccW (minD d) else []
theorem valid_len {L : Int} {l : List UInt8} (h : validW L l = true) : l.length ≤ 9223372036854775807 := by
  unfold validW at h
  rw [Bool.and_eq_true, decide_eq_true_eq] at h
  omega
theorem tests_len {m : Dfa} {ts : List (List UInt8)} (h : TestsOK m ts) : ∀ a ∈ ts, a.length ≤ 9223372036854775807 := fun a ha => valid_len (h.ok a ha)
theorem acc_len {d : Dfa} (hv : VD d) : ∀ a ∈ AccW (minD d), a.length ≤ 9223372036854775807 := fun a ha => by
  obtain ⟨i, hi, e⟩ := mem_getD [] ha
  have h1 := (acc_ok hv).run i hi
  rw [e] at h1
  have h2 := RunV_bd (d := minD d) (q := (minD d).s) (l := a) (by omega)
  exact valid_len h2.2.2.2
set_option maxHeartbeats 1000000 in
set_option maxRecDepth 100000 in
theorem s_prove (w : World) (v : Value) (d : Dfa) (h : RdD (fun _ => False) w v d) : CallS Try.prog 34 [v] w (fun r o => ∃ (vF vN vS vA vT : Value) (rs : List Value) (ts : List (List UInt8)), r = .tuple #[.agg #[.int .i64 (MinV d).L, .int .i64 (MinV d).s, vF, vN], .agg #[vS, vA, vT], .int .i64 (errV d)] ∧ rs.length = (MinV d).nx.length ∧ IsSl vF ∧ IsSl vN ∧ IsSl vS ∧ IsSl vA ∧ IsSl vT ∧ (VD d → TestsOK (minD d) ts) ∧ (¬ VD d → ts = []) ∧ o = dfaO 4 3 26 vF vN rs (MinV d) ++ [row vS 3 1 (MapV d).length ((MapV d).map (Value.int .i64)), row vA 9 1 (AccX d).length ((AccX d).map sv), row vT 9 1 ts.length (ts.map sv)]) := by
  have h0 := h
  obtain ⟨vF, vN, rfl, hF, hN⟩ := h
  have hF0 := hF
  have hN0 := hN
  obtain ⟨rs, hrl, hNr, hNi⟩ := hN
  have sF := hF.sl
  have sN := hNr.sl
  have hmf := hF.le
  have hmn := hNr.le
  unfold RdL at hF
  refine spec_of Try.func34 rfl (Nat.le_of_ble_eq_true rfl) ?_
  refine AK.seq (fun _ hK1 => ?_)
  refine AK.region ?_
  refine AK.box_ (E := 25) (cs := [.int .i64 d.L, .int .i64 d.s, vF, vN]) rfl rfl rfl trivial rfl (fun bx1 => ?_)
  refine AK.alloc el25 rfl rfl trivial rfl (fun bx2 => ?_)
  refine AK.alloc el51 rfl rfl trivial rfl (fun bx3 => ?_)
  refine AK.val _ (Yl.assign rfl) trivial rfl ?_
  refine AK.nil ?_
  refine AK.then_ (hK1 _ ?_)
  refine AK.seq (fun _ hK2 => ?_)
  refine AK.seq (fun _ hK3 => ?_)
  refine AK.region ?_
  refine AK.val _ (Yl.loadBoxG ag25 rfl (by first | ((repeat (first | exact .hd | apply BoxS.tl | apply MapS.tl)); done) | assumption | exact BoxS.arg (by assumption)) rfl rfl) trivial rfl ?_
  refine AK.call co23 rfl (fun w hw => s_validate w _ d (h0.at hw)) trivial rfl ?_
  rintro r o ⟨rfl, rfl⟩
  refine AK.val _ (Yl.assign rfl) trivial rfl ?_
  refine AK.nil ?_
  refine AK.then_ (hK3 _ ?_)
  refine AK.seq (fun _ hK4 => ?_)
  refine AK.region ?_
  refine AK.val _ (Yl.move rfl) trivial rfl ?_
  refine AK.val _ (Yl.neq rfl rfl) trivial rfl ?_
  refine AK.nil ?_
  refine AK.then_ (hK4 _ ?_)
  refine AK.condNe rfl (fun hc0 => ?_) (fun hc0 => ?_)
  · have hnv : ¬ VD d := fun h => hc0 ((errV_iff d).2 h)
    refine AK.seq (fun _ hK5 => ?_)
    refine AK.region ?_
    refine AK.val _ (Yl.build (parts := []) (cs := #[.int .i64 0, .int .i64 0, .slice none 0 0, .slice none 0 0]) rfl (by kernel_rfl)) trivial rfl ?_
    refine AK.val _ (Yl.build (parts := []) (cs := #[.slice none 0 0, .slice none 0 0, .slice none 0 0]) rfl (by kernel_rfl)) trivial rfl ?_
    refine AK.val _ (Yl.move rfl) trivial rfl ?_
    refine AK.storeBox 1 (us := [.int .i64 0, .int .i64 0, .slice none 0 0, .slice none 0 0]) (cs' := [.int .i64 0, .int .i64 0, .slice none 0 0, .slice none 0 0]) rfl sz25 rfl rfl rfl rfl (by repeat (first | exact one'_nil | refine one'_cons (by first | rfl | exact IsSl.one (by assumption) | exact IsSl.one nilSl) ?_)) (Nat.le_of_ble_eq_true rfl) rfl trivial ?_
    refine AK.storeBox 2 (us := [.slice none 0 0, .slice none 0 0, .slice none 0 0]) (cs' := [.slice none 0 0, .slice none 0 0, .slice none 0 0]) rfl sz51 rfl rfl rfl rfl (by repeat (first | exact one'_nil | refine one'_cons (by first | rfl | exact IsSl.one (by assumption) | exact IsSl.one nilSl) ?_)) (Nat.le_of_ble_eq_true rfl) rfl trivial ?_
    refine AK.val _ (Yl.assign rfl) trivial rfl ?_
    refine AK.nil ?_
    refine AK.then_ (hK5 _ ?_)
    refine AK.ret ?_
    refine AK.then_ret ?_
    refine AK.own' (dfaO 4 3 26 (.slice none 0 0) (.slice none 0 0) [] nilD ++ [row (.slice none 0 0) 3 1 0 [], row (.slice none 0 0) 9 1 0 [], row (.slice none 0 0) 9 1 0 [], box bx2 25 4 [.int .i64 0, .int .i64 0, .slice none 0 0, .slice none 0 0], box bx3 51 3 [.slice none 0 0, .slice none 0 0, .slice none 0 0]]) (fun w hw => by have h1 := ((((((hw.pick [1, 2] (by decide) rfl rfl).ghost 4 1).ghost 26 1).ghostG (f := Value.int .i64) 3).ghost 3 1).ghost 9 1).ghost 9 1; exact h1.pick [2, 3, 4, 5, 6, 7, 0, 1] (by decide) rfl rfl) ?_
    refine AK.retG [.cell 2 25, .cell 3 51, .tmp 4] rfl (.cons (.cell ag25 rfl (by first | ((repeat (first | exact .hd | apply BoxS.tl | apply MapS.tl)); done) | assumption | exact BoxS.arg (by assumption)) rfl rfl) (.cons (.cell ag51 rfl (by first | ((repeat (first | exact .hd | apply BoxS.tl | apply MapS.tl)); done) | assumption | exact BoxS.arg (by assumption)) rfl rfl) (.cons (.tmp rfl) (.nil)))) (fun w hw => ⟨_, _, ?_, rfl, Ret.of (hw.pick [0, 1, 2, 3, 4, 5] (by decide) rfl rfl)⟩)
    rw [show MinV d = nilD from if_neg hnv, show MapV d = [] from if_neg hnv, show AccX d = [] from if_neg hnv]
    exact ⟨_, _, _, _, _, [], [], rfl, rfl, nilSl, nilSl, nilSl, nilSl, nilSl, fun h => absurd h hnv, fun _ => rfl, rfl⟩
  · have hv : VD d := (errV_iff d).1 hc0
    refine AK.skip ?_
    refine AK.then_ (hK2 _ ?_)
    refine AK.seq (fun _ hK6 => ?_)
    refine AK.region ?_
    refine AK.val _ (Yl.loadBoxG ag25 rfl (by first | ((repeat (first | exact .hd | apply BoxS.tl | apply MapS.tl)); done) | assumption | exact BoxS.arg (by assumption)) rfl rfl) trivial rfl ?_
    refine AK.call co39 rfl (fun w hw => s_minimal w _ d (h0.at hw) hv) trivial rfl ?_
    rintro r o ⟨mF, mN, mS, mrs, rfl, hmrs, smF, smN, smS, rfl⟩
    refine AK.val _ (Yl.move rfl) trivial rfl ?_
    refine AK.val _ (Yl.extract rfl rfl) trivial rfl ?_
    refine AK.val _ (Yl.extract rfl rfl) trivial rfl ?_
    refine AK.alloc el25 rfl rfl trivial rfl (fun bx6 => ?_)
    refine AK.storeBox 7 (us := [.int .i64 (minD d).L, .int .i64 (minD d).s, mF, mN]) (cs' := [.int .i64 (minD d).L, .int .i64 (minD d).s, mF, mN]) rfl sz25 rfl rfl rfl rfl (by repeat (first | exact one'_nil | refine one'_cons (by first | rfl | exact IsSl.one (by assumption) | exact IsSl.one nilSl) ?_)) (Nat.le_of_ble_eq_true rfl) rfl trivial ?_
    refine AK.val _ (Yl.assign rfl) trivial rfl ?_
    refine AK.nil ?_
    refine AK.then_ (hK6 _ ?_)
    refine AK.seq (fun _ hK7 => ?_)
    try (conv => enter [2, 2]; dsimp only [List.set_cons_zero, List.set_cons_succ, List.cons_append, List.nil_append])
    refine AK.held 7 mixed ?_
    refine HeldK.first 0 (fuel := 9) (listed' := #[true, false, false, false, false, false, false, false, false, false]) _ rfl (by kernel_rfl) rfl rfl (Yl.loadBoxG ag25 rfl (by first | ((repeat (first | exact .hd | apply BoxS.tl | apply MapS.tl)); done) | assumption | exact BoxS.arg (by assumption)) rfl rfl) trivial rfl ?_
    refine HeldK.firstP 1 (fuel := 8) (listed' := #[true, true, false, false, false, false, false, false, false, false]) _ rfl (by kernel_rfl) rfl rfl (PY.move rfl) trivial rfl ?_
    refine HeldK.first 2 (fuel := 7) (listed' := #[true, true, true, false, false, false, false, false, false, false]) _ rfl (by kernel_rfl) rfl rfl (Yl.loadBoxG ag25 rfl (by first | ((repeat (first | exact .hd | apply BoxS.tl | apply MapS.tl)); done) | assumption | exact BoxS.arg (by assumption)) rfl rfl) trivial rfl ?_
    refine HeldK.first 4 (fuel := 6) (listed' := #[true, true, true, false, true, false, false, false, false, false]) _ rfl (by kernel_rfl) rfl rfl (Yl.loadBoxG ag25 rfl (by first | ((repeat (first | exact .hd | apply BoxS.tl | apply MapS.tl)); done) | assumption | exact BoxS.arg (by assumption)) rfl rfl) trivial rfl ?_
    refine HeldK.one 3 (fuel := 5) (listed' := #[true, true, true, true, true, false, false, false, false, false]) (by kernel_rfl) rfl rfl ?_
    refine AK.call co50 rfl (fun w hw => s_access w _ (minD d) (RdD.own 3 hw hmrs rfl rfl rfl)) trivial rfl ?_
    rintro vA o ⟨svA, rfl⟩
    refine AK.nil ?_
    try (conv => enter [2, 2]; dsimp only [List.set_cons_zero, List.set_cons_succ, List.cons_append, List.nil_append])
    refine HeldK.back (by repeat (first | exact HWle.nil | refine HWle.cons Ale.rfl ?_ | refine HWle.cons Ale.fst ?_)) ?_
    refine HeldK.one 5 (fuel := 4) (listed' := #[true, true, true, true, true, true, false, false, false, false]) (by kernel_rfl) rfl rfl ?_
    refine AK.call co51 rfl (fun w hw => s_tests w _ (minD d) (RdD.own 3 hw hmrs rfl rfl rfl) (min_vd hv) (fun p q hp hq he => min_red hv hp hq he)) trivial rfl ?_
    rintro vT o ⟨ts, svT, rfl, hts⟩
    refine AK.nil ?_
    try (conv => enter [2, 2]; dsimp only [List.set_cons_zero, List.set_cons_succ, List.cons_append, List.nil_append])
    refine HeldK.back (by repeat (first | exact HWle.nil | refine HWle.cons Ale.rfl ?_ | refine HWle.cons Ale.fst ?_)) ?_
    refine HeldK.firstP 6 (fuel := 3) (listed' := #[true, true, true, true, true, true, true, false, false, false]) _ rfl (by kernel_rfl) rfl rfl (PY.build (parts := [(0, .tmp 21), (1, .tmp 23), (2, .tmp 25)]) (cs := #[mS, vA, vT]) rfl (by obtain ⟨_, _, _, rfl⟩ := smS; obtain ⟨_, _, _, rfl⟩ := svA; obtain ⟨_, _, _, rfl⟩ := svT; kernel_rfl)) trivial rfl ?_
    refine HeldK.one 7 (fuel := 2) (listed' := #[true, true, true, true, true, true, true, true, false, false]) (by kernel_rfl) rfl rfl ?_
    refine AK.storeBox 1 (us := [.int .i64 (minD d).L, .int .i64 (minD d).s, mF, mN]) (cs' := [.int .i64 (minD d).L, .int .i64 (minD d).s, mF, mN]) rfl sz25 rfl rfl rfl rfl (by repeat (first | exact one'_nil | refine one'_cons (by first | rfl | exact IsSl.one (by assumption) | exact IsSl.one nilSl) ?_)) (Nat.le_of_ble_eq_true rfl) rfl trivial ?_
    refine AK.nil ?_
    try (conv => enter [2, 2]; dsimp only [List.set_cons_zero, List.set_cons_succ, List.cons_append, List.nil_append])
    refine HeldK.backN 8 rfl rfl (by kernel_rfl) ?_
    refine AK.storeBox 2 (us := [mS, vA, vT]) (cs' := [mS, vA, vT]) rfl sz51 rfl rfl rfl rfl (by repeat (first | exact one'_nil | refine one'_cons (by first | rfl | exact IsSl.one (by assumption) | exact IsSl.one nilSl) ?_)) (Nat.le_of_ble_eq_true rfl) rfl trivial ?_
    refine AK.val _ (Yl.assign rfl) trivial rfl ?_
    refine AK.nil ?_
    refine AK.fromQn ?_
    refine AK.then_ (hK7 _ ?_)
    refine AK.ret ?_
    refine AK.retG [.cell 2 25, .cell 3 51, .tmp 4] rfl (.cons (.cell ag25 rfl (by first | ((repeat (first | exact .hd | apply BoxS.tl | apply MapS.tl)); done) | assumption | exact BoxS.arg (by assumption)) rfl rfl) (.cons (.cell ag51 rfl (by first | ((repeat (first | exact .hd | apply BoxS.tl | apply MapS.tl)); done) | assumption | exact BoxS.arg (by assumption)) rfl rfl) (.cons (.tmp rfl) (.nil)))) (fun w hw => ⟨_, _, ?_, rfl, Ret.of (hw.pick [3, 4, 5, 6, 8, 9] (by decide) rfl rfl)⟩)
    rw [show MinV d = minD d from if_pos hv, show MapV d = mapM d from if_pos hv, show AccX d = AccW (minD d) from if_pos hv, (errV_iff d).2 hv]
    exact ⟨mF, mN, mS, vA, vT, mrs, ts, rfl, hmrs, smF, smN, smS, svA, svT, fun _ => hts, fun h => absurd hv h, rfl⟩

set_option maxHeartbeats 1000000 in
set_option maxRecDepth 100000 in
theorem l_proves (w : World) (v : Value) (d : Dfa) (h : RdD (fun _ => False) w v d) : CallS Try.prog 12 [v] w (fun r o => r = .bool true ∧ o = []) := by
  have h0 := h
  obtain ⟨vF, vN, rfl, hF, hN⟩ := h
  have hF0 := hF
  have hN0 := hN
  obtain ⟨rs, hrl, hNr, hNi⟩ := hN
  have sF := hF.sl
  have sN := hNr.sl
  have hmf := hF.le
  have hmn := hNr.le
  unfold RdL at hF
  refine spec_of Try.func12 rfl (Nat.le_of_ble_eq_true rfl) ?_
  refine AK.seq (fun _ hK1 => ?_)
  refine AK.region ?_
  refine AK.box_ (E := 25) (cs := [.int .i64 d.L, .int .i64 d.s, vF, vN]) rfl rfl rfl trivial rfl (fun bx1 => ?_)
  refine AK.val _ (Yl.assign rfl) trivial rfl ?_
  refine AK.nil ?_
  refine AK.then_ (hK1 _ ?_)
  refine AK.seq (fun _ hK2 => ?_)
  refine AK.region ?_
  refine AK.val _ (Yl.loadBoxG ag25 rfl (by first | ((repeat (first | exact .hd | apply BoxS.tl | apply MapS.tl)); done) | assumption | exact BoxS.arg (by assumption)) rfl rfl) trivial rfl ?_
  refine AK.call co34 rfl (fun w hw => s_prove w _ d (h0.at hw)) trivial rfl ?_
  rintro r o ⟨mF, mN, mS, vA, vT, mrs, ts, rfl, hmrs, smF, smN, smS, svA, svT, hts, hts0, rfl⟩
  refine AK.val _ (Yl.move rfl) trivial rfl ?_
  refine AK.val _ (Yl.extract rfl rfl) trivial rfl ?_
  refine AK.val _ (Yl.extract rfl rfl) trivial rfl ?_
  refine AK.val _ (Yl.extract rfl rfl) trivial rfl ?_
  refine AK.alloc el25 rfl rfl trivial rfl (fun bx3 => ?_)
  refine AK.alloc el51 rfl rfl trivial rfl (fun bx4 => ?_)
  refine AK.storeBox 7 (us := [.int .i64 (MinV d).L, .int .i64 (MinV d).s, mF, mN]) (cs' := [.int .i64 (MinV d).L, .int .i64 (MinV d).s, mF, mN]) rfl sz25 rfl rfl rfl rfl (by repeat (first | exact one'_nil | refine one'_cons (by first | rfl | exact IsSl.one (by assumption) | exact IsSl.one nilSl) ?_)) (Nat.le_of_ble_eq_true rfl) rfl trivial ?_
  refine AK.storeBox 8 (us := [mS, vA, vT]) (cs' := [mS, vA, vT]) rfl sz51 rfl rfl rfl rfl (by repeat (first | exact one'_nil | refine one'_cons (by first | rfl | exact IsSl.one (by assumption) | exact IsSl.one nilSl) ?_)) (Nat.le_of_ble_eq_true rfl) rfl trivial ?_
  refine AK.val _ (Yl.assign rfl) trivial rfl ?_
  refine AK.nil ?_
  refine AK.then_ (hK2 _ ?_)
  refine AK.seq (fun _ hK3 => ?_)
  refine AK.seq (fun _ hK4 => ?_)
  refine AK.region ?_
  refine AK.val _ (Yl.loadBoxG ag25 rfl (by first | ((repeat (first | exact .hd | apply BoxS.tl | apply MapS.tl)); done) | assumption | exact BoxS.arg (by assumption)) rfl rfl) trivial rfl ?_
  refine AK.call co15 rfl (fun w hw => s_refvalidate w _ d (h0.at hw)) trivial rfl ?_
  rintro r o ⟨rfl, rfl⟩
  refine AK.val _ (Yl.assign rfl) trivial rfl ?_
  refine AK.nil ?_
  refine AK.then_ (hK4 _ ?_)
  refine AK.seq (fun _ hK5 => ?_)
  refine AK.region ?_
  refine AK.val _ (Yl.move rfl) trivial rfl ?_
  refine AK.val _ (Yl.neq rfl rfl) trivial rfl ?_
  refine AK.nil ?_
  refine AK.then_ (hK5 _ ?_)
  refine AK.condNe rfl (fun hc0 => ?_) (fun hc0 => ?_)
  · have hnv : ¬ VD d := fun h => hc0 ((errV_iff d).2 h)
    have e1 : MinV d = nilD := if_neg hnv
    have e2 : MapV d = [] := if_neg hnv
    have e3 : AccX d = [] := if_neg hnv
    have e4 := hts0 hnv
    have l2 : (MapV d).length = 0 := by rw [e2]; rfl
    have l3 : (AccX d).length = 0 := by rw [e3]; rfl
    have l4 : ts.length = 0 := by rw [e4]; rfl
    refine AK.seq (fun _ hK6 => ?_)
    refine AK.region ?_
    refine AK.val _ (Yl.move rfl) trivial rfl ?_
    refine AK.val _ (Yl.move rfl) trivial rfl ?_
    refine AK.val _ (Yl.eql rfl rfl) trivial rfl ?_
    refine AK.val _ (Yl.move rfl) trivial rfl ?_
    refine AK.knownT (g := 20) rfl (decide_eq_true rfl) (fun hg_4_3 => ?_)
    refine AK.val _ (Yl.loadBoxG ag25 rfl (by first | ((repeat (first | exact .hd | apply BoxS.tl | apply MapS.tl)); done) | assumption | exact BoxS.arg (by assumption)) rfl rfl) ⟨_, rfl, congrArg (fun b => some (Value.bool b)) hg_4_3⟩ rfl ?_
    refine AK.val _ (Yl.build (parts := []) (cs := #[.int .i64 0, .int .i64 0, .slice none 0 0, .slice none 0 0]) rfl (by kernel_rfl)) ⟨_, rfl, congrArg (fun b => some (Value.bool b)) hg_4_3⟩ rfl ?_
    refine AK.call co20 rfl (fun w hw => s_sameD w _ _ (MinV d) nilD (RdD.own 1 hw hmrs rfl rfl rfl) rd_nilD) ⟨_, rfl, congrArg (fun b => some (Value.bool b)) hg_4_3⟩ rfl ?_
    rintro r o ⟨rfl, rfl⟩
    refine AK.val _ (Yl.pickT rfl (hg_4_3) rfl) trivial rfl ?_
    refine AK.val _ (Yl.move rfl) trivial rfl ?_
    refine AK.knownT (g := 25) rfl (decide_eq_true e1) (fun hg_4_8 => ?_)
    refine AK.val _ (Yl.fieldAddr fd51_0 rfl) ⟨_, rfl, congrArg (fun b => some (Value.bool b)) hg_4_8⟩ rfl ?_
    refine AK.val _ (Yl.loadBox on26 rfl (by first | ((repeat (first | exact .hd | apply BoxS.tl | apply MapS.tl)); done) | assumption | exact BoxS.arg (by assumption)) rfl) ⟨_, rfl, congrArg (fun b => some (Value.bool b)) hg_4_8⟩ rfl ?_
    refine AK.val _ (Yl.lenR sl26 rfl (by first | exact .arg ‹_› | ((repeat (first | exact .hd | apply RdS.tl)); done) | assumption)) ⟨_, rfl, congrArg (fun b => some (Value.bool b)) hg_4_8⟩ rfl ?_
    refine AK.val _ (Yl.fieldAddr fd51_1 rfl) ⟨_, rfl, congrArg (fun b => some (Value.bool b)) hg_4_8⟩ rfl ?_
    refine AK.val _ (Yl.loadBox on49 rfl (by first | ((repeat (first | exact .hd | apply BoxS.tl | apply MapS.tl)); done) | assumption | exact BoxS.arg (by assumption)) rfl) ⟨_, rfl, congrArg (fun b => some (Value.bool b)) hg_4_8⟩ rfl ?_
    refine AK.val _ (Yl.lenR sl49 rfl (by first | exact .arg ‹_› | ((repeat (first | exact .hd | apply RdS.tl)); done) | assumption)) ⟨_, rfl, congrArg (fun b => some (Value.bool b)) hg_4_8⟩ rfl ?_
    refine AK.val _ (Yl.add rfl rfl (by omega)) ⟨_, rfl, congrArg (fun b => some (Value.bool b)) hg_4_8⟩ rfl ?_
    refine AK.val _ (Yl.fieldAddr fd51_2 rfl) ⟨_, rfl, congrArg (fun b => some (Value.bool b)) hg_4_8⟩ rfl ?_
    refine AK.val _ (Yl.loadBox on49 rfl (by first | ((repeat (first | exact .hd | apply BoxS.tl | apply MapS.tl)); done) | assumption | exact BoxS.arg (by assumption)) rfl) ⟨_, rfl, congrArg (fun b => some (Value.bool b)) hg_4_8⟩ rfl ?_
    refine AK.val _ (Yl.lenR sl49 rfl (by first | exact .arg ‹_› | ((repeat (first | exact .hd | apply RdS.tl)); done) | assumption)) ⟨_, rfl, congrArg (fun b => some (Value.bool b)) hg_4_8⟩ rfl ?_
    refine AK.val _ (Yl.add rfl rfl (by omega)) ⟨_, rfl, congrArg (fun b => some (Value.bool b)) hg_4_8⟩ rfl ?_
    refine AK.val _ (Yl.eql rfl rfl) ⟨_, rfl, congrArg (fun b => some (Value.bool b)) hg_4_8⟩ rfl ?_
    refine AK.val _ (Yl.pickT rfl (hg_4_8) rfl) trivial rfl ?_
    refine AK.val _ (Yl.move rfl) trivial rfl ?_
    refine AK.knownT (g := 39) rfl (decide_eq_true (by omega)) (fun hg_4_22 => ?_)
    refine AK.call co16 rfl (fun w hw => s_awake w) ⟨_, rfl, congrArg (fun b => some (Value.bool b)) hg_4_22⟩ rfl ?_
    rintro r o ⟨rfl, rfl⟩
    refine AK.val _ (Yl.pickT rfl (hg_4_22) rfl) trivial rfl ?_
    refine AK.val _ (Yl.assign rfl) trivial rfl ?_
    refine AK.nil ?_
    refine AK.then_ (hK6 _ ?_)
    refine AK.ret ?_
    refine AK.then_ret ?_
    refine AK.ret1 rfl rfl (fun w hw => ⟨_, _, ?_, rfl, Ret.of (hw.pick [] (by decide) rfl rfl)⟩)
    exact ⟨rfl, rfl⟩
  · have hv : VD d := (errV_iff d).1 hc0
    have e1 : MinV d = minD d := if_pos hv
    have e2 : MapV d = mapM d := if_pos hv
    have e3 : AccX d = AccW (minD d) := if_pos hv
    have hck : ChkP d (MinV d) (MapV d) (AccX d) ts := by rw [e1, e2, e3]; exact prove_ok hv (hts hv)
    have hla : ∀ a ∈ AccX d, a.length ≤ 9223372036854775807 := by rw [e3]; exact acc_len hv
    have hlt := tests_len (hts hv)
    refine AK.skip ?_
    refine AK.then_ (hK3 _ ?_)
    refine AK.seq (fun _ hK7 => ?_)
    refine AK.seq (fun _ hK8 => ?_)
    refine AK.region ?_
    refine AK.val _ (Yl.fieldAddr fd25_2 rfl) trivial rfl ?_
    refine AK.val _ (Yl.loadBox on22 rfl (by first | ((repeat (first | exact .hd | apply BoxS.tl | apply MapS.tl)); done) | assumption | exact BoxS.arg (by assumption)) rfl) trivial rfl ?_
    refine AK.val _ (Yl.lenR sl22 rfl (by first | exact .arg ‹_› | ((repeat (first | exact .hd | apply RdS.tl)); done) | assumption)) trivial rfl ?_
    refine AK.val _ (Yl.gtr rfl rfl) trivial rfl ?_
    refine AK.nil ?_
    refine AK.then_ (hK8 _ ?_)
    refine AK.condD rfl (fun hc1 => ?_) (fun hc1 => ?_)
    · refine AK.seq (fun _ hK9 => ?_)
      refine AK.region ?_
      refine AK.call co16 rfl (fun w hw => s_awake w) trivial rfl ?_
      rintro r o ⟨rfl, rfl⟩
      refine AK.val _ (Yl.assign rfl) trivial rfl ?_
      refine AK.nil ?_
      refine AK.then_ (hK9 _ ?_)
      refine AK.ret ?_
      refine AK.then_ret ?_
      refine AK.ret1 rfl rfl (fun w hw => ⟨_, _, ?_, rfl, Ret.of (hw.pick [] (by decide) rfl rfl)⟩)
      exact ⟨rfl, rfl⟩
    · refine AK.skip ?_
      refine AK.then_ (hK7 _ ?_)
      refine AK.seq (fun _ hK10 => ?_)
      try (conv => enter [2, 2]; dsimp only [List.set_cons_zero, List.set_cons_succ, List.cons_append, List.nil_append])
      refine AK.held 24 mixed ?_
      refine HeldK.first 0 (fuel := 23) (listed' := #[true, false, false, false, false, false, false, false, false, false, false, false, false, false, false, false, false, false, false, false, false, false, false, false]) _ rfl (by kernel_rfl) rfl rfl (Yl.move rfl) trivial rfl ?_
      refine HeldK.first 1 (fuel := 22) (listed' := #[true, true, false, false, false, false, false, false, false, false, false, false, false, false, false, false, false, false, false, false, false, false, false, false]) _ rfl (by kernel_rfl) rfl rfl (Yl.eql rfl rfl) trivial rfl ?_
      refine HeldK.first 2 (fuel := 21) (listed' := #[true, true, true, false, false, false, false, false, false, false, false, false, false, false, false, false, false, false, false, false, false, false, false, false]) _ rfl (by kernel_rfl) rfl rfl (Yl.move rfl) trivial rfl ?_
      refine AK.knownT (g := 49) rfl (decide_eq_true hc0) (fun hg_7_2 => ?_)
      refine HeldK.first 3 (fuel := 20) (listed' := #[true, true, true, true, false, false, false, false, false, false, false, false, false, false, false, false, false, false, false, false, false, false, false, false]) _ rfl (by kernel_rfl) rfl rfl (Yl.loadBoxG ag25 rfl (by first | ((repeat (first | exact .hd | apply BoxS.tl | apply MapS.tl)); done) | assumption | exact BoxS.arg (by assumption)) rfl rfl) ⟨_, rfl, congrArg (fun b => some (Value.bool b)) hg_7_2⟩ rfl ?_
      refine HeldK.first 4 (fuel := 19) (listed' := #[true, true, true, true, true, false, false, false, false, false, false, false, false, false, false, false, false, false, false, false, false, false, false, false]) _ rfl (by kernel_rfl) rfl rfl (Yl.loadBoxG ag25 rfl (by first | ((repeat (first | exact .hd | apply BoxS.tl | apply MapS.tl)); done) | assumption | exact BoxS.arg (by assumption)) rfl rfl) ⟨_, rfl, congrArg (fun b => some (Value.bool b)) hg_7_2⟩ rfl ?_
      refine HeldK.one 5 (fuel := 18) (listed' := #[true, true, true, true, true, true, false, false, false, false, false, false, false, false, false, false, false, false, false, false, false, false, false, false]) (by kernel_rfl) rfl rfl ?_
      refine AK.call co21 rfl (fun w hw => s_refmin w _ d (h0.at hw) hv) ⟨_, rfl, congrArg (fun b => some (Value.bool b)) hg_7_2⟩ rfl ?_
      rintro r o ⟨uF, uN, urs, rfl, hurs, suF, suN, rfl⟩
      refine AK.nil ?_
      try (conv => enter [2, 2]; dsimp only [List.set_cons_zero, List.set_cons_succ, List.cons_append, List.nil_append])
      refine HeldK.back (by repeat (first | exact HWle.nil | refine HWle.cons Ale.rfl ?_ | refine HWle.cons Ale.fst ?_)) ?_
      refine HeldK.one 6 (fuel := 17) (listed' := #[true, true, true, true, true, true, true, false, false, false, false, false, false, false, false, false, false, false, false, false, false, false, false, false]) (by kernel_rfl) rfl rfl ?_
      refine AK.call co20 rfl (fun w hw => s_sameD w _ _ (MinV d) (minD d) (RdD.own 1 hw hmrs rfl rfl rfl) (RdD.own 9 hw hurs rfl rfl rfl)) ⟨_, rfl, congrArg (fun b => some (Value.bool b)) hg_7_2⟩ rfl ?_
      rintro r o ⟨rfl, rfl⟩
      refine AK.nil ?_
      try (conv => enter [2, 2]; dsimp only [List.set_cons_zero, List.set_cons_succ, List.cons_append, List.nil_append])
      refine HeldK.back (by repeat (first | exact HWle.nil | refine HWle.cons Ale.rfl ?_ | refine HWle.cons Ale.fst ?_)) ?_
      refine HeldK.first 7 (fuel := 16) (listed' := #[true, true, true, true, true, true, true, true, false, false, false, false, false, false, false, false, false, false, false, false, false, false, false, false]) _ rfl (by kernel_rfl) rfl rfl (Yl.pickT rfl (hg_7_2) rfl) trivial rfl ?_
      refine HeldK.first 8 (fuel := 15) (listed' := #[true, true, true, true, true, true, true, true, true, false, false, false, false, false, false, false, false, false, false, false, false, false, false, false]) _ rfl (by kernel_rfl) rfl rfl (Yl.move rfl) trivial rfl ?_
      refine AK.knownT (g := 55) rfl (decide_eq_true e1) (fun hg_7_8 => ?_)
      refine HeldK.first 9 (fuel := 14) (listed' := #[true, true, true, true, true, true, true, true, true, true, false, false, false, false, false, false, false, false, false, false, false, false, false, false]) _ rfl (by kernel_rfl) rfl rfl (Yl.loadBoxG ag25 rfl (by first | ((repeat (first | exact .hd | apply BoxS.tl | apply MapS.tl)); done) | assumption | exact BoxS.arg (by assumption)) rfl rfl) ⟨_, rfl, congrArg (fun b => some (Value.bool b)) hg_7_8⟩ rfl ?_
      refine HeldK.first 10 (fuel := 13) (listed' := #[true, true, true, true, true, true, true, true, true, true, true, false, false, false, false, false, false, false, false, false, false, false, false, false]) _ rfl (by kernel_rfl) rfl rfl (Yl.loadBoxG ag25 rfl (by first | ((repeat (first | exact .hd | apply BoxS.tl | apply MapS.tl)); done) | assumption | exact BoxS.arg (by assumption)) rfl rfl) ⟨_, rfl, congrArg (fun b => some (Value.bool b)) hg_7_8⟩ rfl ?_
      refine HeldK.first 11 (fuel := 12) (listed' := #[true, true, true, true, true, true, true, true, true, true, true, true, false, false, false, false, false, false, false, false, false, false, false, false]) _ rfl (by kernel_rfl) rfl rfl (Yl.loadBoxG ag51 rfl (by first | ((repeat (first | exact .hd | apply BoxS.tl | apply MapS.tl)); done) | assumption | exact BoxS.arg (by assumption)) rfl rfl) ⟨_, rfl, congrArg (fun b => some (Value.bool b)) hg_7_8⟩ rfl ?_
      refine HeldK.one 12 (fuel := 11) (listed' := #[true, true, true, true, true, true, true, true, true, true, true, true, true, false, false, false, false, false, false, false, false, false, false, false]) (by kernel_rfl) rfl rfl ?_
      refine AK.call co33 rfl (fun w hw => s_refcheck w _ d (h0.at hw) _ (MinV d) (RdD.own 1 hw hmrs rfl rfl rfl) _ _ _ (MapV d) (AccX d) ts (RdL.own 4 hw rfl) (RdL.own 5 hw rfl) hla (RdL.own 6 hw rfl) hlt) ⟨_, rfl, congrArg (fun b => some (Value.bool b)) hg_7_8⟩ rfl ?_
      rintro r o ⟨b1, rfl, hb1, rfl⟩
      refine AK.nil ?_
      try (conv => enter [2, 2]; dsimp only [List.set_cons_zero, List.set_cons_succ, List.cons_append, List.nil_append])
      refine HeldK.back (by repeat (first | exact HWle.nil | refine HWle.cons Ale.rfl ?_ | refine HWle.cons Ale.fst ?_)) ?_
      refine HeldK.first 13 (fuel := 10) (listed' := #[true, true, true, true, true, true, true, true, true, true, true, true, true, true, false, false, false, false, false, false, false, false, false, false]) _ rfl (by kernel_rfl) rfl rfl (Yl.pickT rfl (hg_7_8) rfl) trivial rfl ?_
      refine HeldK.first 14 (fuel := 9) (listed' := #[true, true, true, true, true, true, true, true, true, true, true, true, true, true, true, false, false, false, false, false, false, false, false, false]) _ rfl (by kernel_rfl) rfl rfl (Yl.move rfl) trivial rfl ?_
      refine AK.knownT (g := 61) rfl (hb1.2 hck) (fun hg_7_14 => ?_)
      refine HeldK.first 15 (fuel := 8) (listed' := #[true, true, true, true, true, true, true, true, true, true, true, true, true, true, true, true, false, false, false, false, false, false, false, false]) _ rfl (by kernel_rfl) rfl rfl (Yl.loadBoxG ag25 rfl (by first | ((repeat (first | exact .hd | apply BoxS.tl | apply MapS.tl)); done) | assumption | exact BoxS.arg (by assumption)) rfl rfl) ⟨_, rfl, congrArg (fun b => some (Value.bool b)) hg_7_14⟩ rfl ?_
      refine HeldK.first 16 (fuel := 7) (listed' := #[true, true, true, true, true, true, true, true, true, true, true, true, true, true, true, true, true, false, false, false, false, false, false, false]) _ rfl (by kernel_rfl) rfl rfl (Yl.loadBoxG ag25 rfl (by first | ((repeat (first | exact .hd | apply BoxS.tl | apply MapS.tl)); done) | assumption | exact BoxS.arg (by assumption)) rfl rfl) ⟨_, rfl, congrArg (fun b => some (Value.bool b)) hg_7_14⟩ rfl ?_
      refine HeldK.first 17 (fuel := 6) (listed' := #[true, true, true, true, true, true, true, true, true, true, true, true, true, true, true, true, true, true, false, false, false, false, false, false]) _ rfl (by kernel_rfl) rfl rfl (Yl.loadBoxG ag51 rfl (by first | ((repeat (first | exact .hd | apply BoxS.tl | apply MapS.tl)); done) | assumption | exact BoxS.arg (by assumption)) rfl rfl) ⟨_, rfl, congrArg (fun b => some (Value.bool b)) hg_7_14⟩ rfl ?_
      refine HeldK.one 18 (fuel := 5) (listed' := #[true, true, true, true, true, true, true, true, true, true, true, true, true, true, true, true, true, true, true, false, false, false, false, false]) (by kernel_rfl) rfl rfl ?_
      refine AK.call co32 rfl (fun w hw => s_check w _ d (h0.at hw) _ (MinV d) (RdD.own 1 hw hmrs rfl rfl rfl) _ _ _ (MapV d) (AccX d) ts (RdL.own 4 hw rfl) (RdL.own 5 hw rfl) hla (RdL.own 6 hw rfl) hlt) ⟨_, rfl, congrArg (fun b => some (Value.bool b)) hg_7_14⟩ rfl ?_
      rintro r o ⟨b2, rfl, hb2, rfl⟩
      refine AK.nil ?_
      try (conv => enter [2, 2]; dsimp only [List.set_cons_zero, List.set_cons_succ, List.cons_append, List.nil_append])
      refine HeldK.back (by repeat (first | exact HWle.nil | refine HWle.cons Ale.rfl ?_ | refine HWle.cons Ale.fst ?_)) ?_
      refine HeldK.first 19 (fuel := 4) (listed' := #[true, true, true, true, true, true, true, true, true, true, true, true, true, true, true, true, true, true, true, true, false, false, false, false]) _ rfl (by kernel_rfl) rfl rfl (Yl.pickT rfl (hg_7_14) rfl) trivial rfl ?_
      refine HeldK.first 20 (fuel := 3) (listed' := #[true, true, true, true, true, true, true, true, true, true, true, true, true, true, true, true, true, true, true, true, true, false, false, false]) _ rfl (by kernel_rfl) rfl rfl (Yl.move rfl) trivial rfl ?_
      refine HeldK.one 21 (fuel := 2) (listed' := #[true, true, true, true, true, true, true, true, true, true, true, true, true, true, true, true, true, true, true, true, true, true, false, false]) (by kernel_rfl) rfl rfl ?_
      refine AK.knownT (g := 67) rfl (hb2.2 hck) (fun hg_7_20 => ?_)
      refine AK.call co16 rfl (fun w hw => s_awake w) ⟨_, rfl, congrArg (fun b => some (Value.bool b)) hg_7_20⟩ rfl ?_
      rintro r o ⟨rfl, rfl⟩
      refine AK.nil ?_
      try (conv => enter [2, 2]; dsimp only [List.set_cons_zero, List.set_cons_succ, List.cons_append, List.nil_append])
      refine HeldK.back (by repeat (first | exact HWle.nil | refine HWle.cons Ale.rfl ?_ | refine HWle.cons Ale.fst ?_)) ?_
      refine HeldK.first 22 (fuel := 1) (listed' := #[true, true, true, true, true, true, true, true, true, true, true, true, true, true, true, true, true, true, true, true, true, true, true, false]) _ rfl (by kernel_rfl) rfl rfl (Yl.pickT rfl (hg_7_20) rfl) trivial rfl ?_
      refine HeldK.first 23 (fuel := 0) (listed' := #[true, true, true, true, true, true, true, true, true, true, true, true, true, true, true, true, true, true, true, true, true, true, true, true]) _ rfl (by kernel_rfl) rfl rfl (Yl.assign rfl) trivial rfl ?_
      refine HeldK.done (by kernel_rfl) ?_
      refine AK.then_ (hK10 _ ?_)
      refine AK.ret ?_
      refine AK.ret1 rfl rfl (fun w hw => ⟨_, _, ?_, rfl, Ret.of (hw.pick [] (by decide) rfl rfl)⟩)
      exact ⟨rfl, rfl⟩

end Go.Proofs.Ytoikhoniogicdaa

