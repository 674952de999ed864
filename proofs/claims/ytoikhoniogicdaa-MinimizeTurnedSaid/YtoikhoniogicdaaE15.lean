import Derived.Test.YtoikhoniogicdaaE12
import Derived.Test.YtoikhoniogicdaaMP
set_option linter.unusedVariables false
set_option linter.unusedSimpArgs false
namespace Go.Proofs.Ytoikhoniogicdaa
open Go.Sx Go.RowKit
def halfB (P : Program) (kt : TypeId) : Bool := match P.underlying kt with
  | some (.struct fs) => match fs.toList with
    | [f0, f1] => (match P.underlying f0.type with | some (.int .i64) => true | _ => false) && (match P.underlying f1.type with | some .bool => true | _ => false) && f0.offset == 0 && f1.offset == 1 && f0.name != "_" && f1.name != "_" && !P.stoodInHeld kt
    | _ => false
  | _ => false
theorem keyHalf_of {P : Program} {kt : TypeId} (h : halfB P kt = true) : KeyL P kt hbv := by
  unfold halfB at h
  split at h
  case h_2 => cases h
  rename_i fs hu
  split at h
  case h_2 => cases h
  rename_i f0 f1 hf
  have e : fs = #[f0, f1] := Array.toList_inj.1 (by simpa using hf)
  subst e
  simp only [Bool.and_eq_true, beq_iff_eq, bne_iff_ne, Bool.not_eq_true'] at h
  obtain ⟨⟨⟨⟨⟨⟨h0, h1⟩, o0⟩, o1⟩, n0⟩, n1⟩, hp⟩ := h
  split at h0
  case h_2 => cases h0
  rename_i u0
  split at h1
  case h_2 => cases h1
  rename_i u1
  exact keyHalf hu u0 u1 o0 o1 n0 n1 hp
theorem kl95 : KeyL Try.prog 95 hbv := keyHalf_of (by kernel_rfl)
theorem Yl.loadHalf {C : Cx} {sl : List (Nat × Value)} {own : List Asn} {dst : Option Nat} {ty : TypeId} {pos : String} {aft : Array Edge} {g : Option (Nat × Bool)} {x : Operand} {t b : Nat} {p : Int × Bool} (ht : AggT C.P t 2) (hx : opv ⟨sl, own⟩ x = some (.pointer (some ⟨b, 0, none⟩))) (hb : BoxS C own b [.int .i64 p.1, .bool p.2]) :
    Yl C ⟨sl, own⟩ ⟨dst, .load t x, ty, pos, aft, g⟩ (hbv p) := Yl.loadBoxG (us := [.int .i64 p.1, .bool p.2]) ht hx hb rfl rfl
/-! the first state of each class -/
def fstI (cs : List Int) (k : Nat) : List Int := (fstK cs k).map fun (j : Nat) => (j : Int)
theorem fstI_len (cs : List Int) (k : Nat) : (fstI cs k).length = (fstK cs k).length := by simp [fstI]
theorem fstI_skip {cs : List Int} {k : Nat} (h : cs.getD k 0 < (fstI cs k).length) : fstI cs (k + 1) = fstI cs k := by rw [fstI_len] at h; unfold fstI; rw [fstK_skip h]
theorem fstI_new {cs : List Int} {k : Nat} (h : ¬ cs.getD k 0 < (fstI cs k).length) : fstI cs (k + 1) = fstI cs k ++ [(k : Int)] := by rw [fstI_len] at h; unfold fstI; rw [fstK_new h]; simp
theorem fstI_le {cs : List Int} (h : canN cs = cs) {k : Nat} (hk : k < cs.length) : cs.getD k 0 ≤ (fstI cs k).length ∧ 0 ≤ cs.getD k 0 := by rw [fstI_len]; exact fstK_le h hk
theorem fstI_bd (cs : List Int) (k : Nat) : (fstI cs k).length ≤ k := by rw [fstI_len]; exact fstK_bd cs k
theorem fstI_at {cs : List Int} (h : canN cs = cs) {k : Nat} (hk : k ≤ cs.length) {c : Nat} (hc : c < (fstI cs k).length) : 0 ≤ (fstI cs k).getD c 0 ∧ (fstI cs k).getD c 0 < k ∧ cs.getD ((fstI cs k).getD c 0).toNat 0 = (c : Int) := by
  rw [fstI_len] at hc
  have h1 := (fstK_ok h k hk).2 c hc
  have e : (fstI cs k).getD c 0 = (((fstK cs k).getD c 0 : Nat) : Int) := by simp [fstI, List.getD_eq_getElem?_getD, hc]
  rw [e, Int.toNat_natCast]
  exact ⟨by omega, by omega, h1.2⟩
theorem fstI_keep {cs : List Int} {k : Nat} {c : Nat} (hc : c < (fstI cs k).length) : (fstI cs (k + 1)).getD c 0 = (fstI cs k).getD c 0 ∧ c < (fstI cs (k + 1)).length := by
  by_cases h : cs.getD k 0 < (fstI cs k).length
  · rw [fstI_skip h]; exact ⟨rfl, hc⟩
  · rw [fstI_new h]; exact ⟨getD_app 0 hc, by rw [List.length_append]; omega⟩
theorem fstI_has {cs : List Int} (h : canN cs = cs) : ∀ k, k ≤ cs.length → ∀ p, p < k → (cs.getD p 0).toNat < (fstI cs k).length
  | 0, _, p, hp => by cases hp
  | k + 1, hk, p, hp => by
    have hle := fstI_le h (k := k) (by omega)
    rcases Nat.lt_or_eq_of_le (Nat.le_of_lt_succ hp) with h1 | rfl
    · exact (fstI_keep (fstI_has h k (by omega) p h1)).2
    · by_cases h2 : cs.getD p 0 < (fstI cs p).length
      · rw [fstI_skip h2]; omega
      · rw [fstI_new h2, List.length_append, List.length_cons, List.length_nil]; omega
set_option maxHeartbeats 600000 in
set_option maxRecDepth 100000 in
theorem s_split (w : World) (u v : Value) (cs : List Int) (rr : List Bool) (hu : RdL (fun _ => False) (Value.int .i64) w u cs) (hv : RdL (fun _ => False) Value.bool w v rr) (hl : rr.length = cs.length) (hb0 : cs.length ≤ 100000) : CallS Try.prog 55 [u, v] w (fun r o => IsSl r ∧ o = [row r 3 1 cs.length ((spl cs rr).map (Value.int .i64))]) := by
 have hb := hu.le
 unfold RdL at hu hv
 have hzl : (cs.zip rr).length = cs.length := by rw [List.length_zip, hl, Nat.min_self]
 refine spec_of Try.func55 rfl (Nat.le_of_ble_eq_true rfl) ?_
 refine .sr fun _ hK1 => ?_
 refine .as rfl (.nt hK1 ?_)
 refine .sr fun _ hK2 => ?_
 refine AK.makeMap trivial rfl (fun mb => ?_)
 refine .as rfl (.nt hK2 ?_)
 refine .sr fun _ hK3 => ?_
 refine .mv rfl ?_
 refine .v (.lenR sl26 rfl rdp) ?_
 refine AK.make1 (n := cs.length) sl26 el3 rfl rfl rfl (by omega) (by omega) trivial rfl (fun mv => ?_)
 refine AK.shape 1 rfl (fun smv => ?_)
 refine .as rfl (.nt hK3 ?_)
 refine .seq fun _ hK4 => ?_
 refine .sr fun _ hK5 => ?_
 refine .mv rfl ?_
 refine .v (.lenR sl26 rfl rdp) ?_
 refine .mv rfl (.nt hK5 (.block ?_))
 refine AK.loopK (X := Nat) [(1, _), (5, _), (6, _), (16, _), (17, _)] (fun k => [(18, .int .i64 (k : Int))]) (fun k => [mapA mb (mkv hbv (Value.int .i64) (numM (ded ((cs.zip rr).take k)))), row mv 3 1 cs.length ((canN ((cs.zip rr).take k) ++ List.replicate (cs.length - k) 0).map (Value.int .i64))]) (fun k => k ≤ cs.length) (fun k => cs.length - k) (0) slr ?_ ?_ ?_ ?_
 ·exact Nat.zero_le _
 ·exact slr
 ·exact fun w hw => by have e : ((canN ((cs.zip rr).take 0) ++ List.replicate (cs.length - 0) 0).map (Value.int .i64)) = List.replicate cs.length (Value.int .i64 0) := (by simp [canN]); rw [e]; exact hw
 ·intro k hg0 _ hK6
  refine .sr fun _ hK7 => ?_
  refine .v (.lss rfl rfl) ?_
  refine .nt hK7 ?_
  refine .seq fun _ hK8 => ?_
  refine AK.condD rfl (fun hc0 => ?_) (fun hc0 => ?_)
  ·have hdl := ded_le ((cs.zip rr).take k)
   rw [List.length_take] at hdl
   have hnl := numM_len (ded ((cs.zip rr).take k))
   have hz := zip_get (cs := cs) (row := rr) (i := k) (by omega) (by omega)
   refine .skip ?_
   refine AK.then_ (hK8 _ ?_)
   refine .seq fun _ hK9 => ?_
   refine .block ?_
   refine .sr fun _ hK10 => ?_
   refine .mv rfl ?_
   first | refine .v (.iN sl26 rfl rfl) ?_ | refine .v (.iK sl26 rfl rfl) ?_
   refine .v (.loadI on3 rfl rdp (by omega)) ?_
   refine .as rfl (.as rfl (.nt hK10 ?_))
   refine .sr fun _ hK11 => ?_
   refine .mv rfl (.mv rfl (.mv rfl ?_))
   first | refine .v (.iN sl22 rfl rfl) ?_ | refine .v (.iK sl22 rfl rfl) ?_
   refine .v (.loadB on4 rfl rdp (by omega)) ?_
   refine .v (.build (parts := [(0, .tmp 23), (1, .tmp 27)]) (cs := #[.int .i64 (cs.getD k 0), .bool (rr.getD k false)]) rfl (by kernel_rfl)) ?_
   refine AK.alloc el95 rfl rfl trivial rfl (fun bx9 => ?_)
   refine AK.storeBox 2 (us := [.int .i64 (cs.getD k 0), .bool (rr.getD k false)]) (cs' := [.int .i64 (cs.getD k 0), .bool (rr.getD k false)]) rfl sz95 rfl rfl rfl rfl oneP (Nat.le_of_ble_eq_true rfl) rfl trivial ?_
   refine .nt hK11 ?_
   refine .sr fun _ hK12 => ?_
   refine .mv rfl ?_
   first | refine AK.val (hbv ((cs.zip rr).getD k (0, false))) (Yl.loadHalf ag95 rfl (by rw [hz]; exact BoxS.own 2 rfl)) trivial rfl ?_
   refine .v (.lookup2I mp93 kl95 el3 rfl rfl msp) ?_
   refine .mv rfl ?_
   refine .v (.extract rfl rfl) ?_
   refine .v (.extract rfl rfl) ?_
   refine .as rfl (.as rfl (.nt hK12 ?_))
   refine .seq fun _ hK13 => ?_
   refine .sr fun _ hK14 => ?_
   refine .mv rfl ?_
   refine .v (.not rfl) ?_
   refine .nt hK14 ?_
   refine AK.condB rfl (fun hc1 => ?_) (fun hc1 => ?_)
   ·obtain ⟨hx, hcv⟩ := num_new hc1
    refine .sr fun _ hK15 => ?_
    refine .mv rfl ?_
    refine .v (.lenM mp93 rfl msp) ?_
    refine .as rfl (.nt hK15 ?_)
    refine AK.region ?_
    refine .mv rfl ?_
    first | refine AK.val (hbv ((cs.zip rr).getD k (0, false))) (Yl.loadHalf ag95 rfl (by rw [hz]; exact BoxS.own 2 rfl)) trivial rfl ?_
    refine .mv rfl ?_
    refine AK.mapSet 0 rfl mp93 kl95 rfl rfl rfl trivial ?_
    refine .nt hK13 ?_
    refine AK.region ?_
    refine .mv rfl (.mv rfl (.mv rfl ?_))
    first | refine .v (.iN sl26 rfl rfl) ?_ | refine .v (.iK sl26 rfl rfl) ?_
    refine AK.store1e 1 rfl sz3 rfl rfl rfl rfl (by omega) (cs' := ((canN ((cs.zip rr).take (k + 1)) ++ List.replicate (cs.length - (k + 1)) 0).map (Value.int .i64))) (by exact can_fill (0, false) hzl (by omega) hcv) trivial ?_
    refine .nil (.block_normal ?_)
    refine AK.then_ (hK9 _ ?_)
    refine AK.region ?_
    refine .v (.add rfl rfl (by omega)) ?_
    refine .mv rfl (.nil ?_)
    first | refine AK.then_ (hK6 _ _ (k + 1) (by omega) (by omega) (slr) (fun w hw => by rw [← ded_new (0, false) (by omega) hx]; exact hw.pick [0, 1] (by decide) rfl rfl)) | refine AK.then_ (hK6 _ _ (k + 1) (by omega) (by omega) (slr) (fun w hw => by rw [ded_old (0, false) (by omega) (by assumption)]; exact hw.pick [0, 1] (by decide) rfl rfl))
   ·obtain ⟨hx, hcv⟩ := num_old hc1
    refine .skip ?_
    refine AK.then_ (hK13 _ ?_)
    refine AK.region ?_
    refine .mv rfl (.mv rfl (.mv rfl ?_))
    first | refine .v (.iN sl26 rfl rfl) ?_ | refine .v (.iK sl26 rfl rfl) ?_
    refine AK.store1e 1 rfl sz3 rfl rfl rfl rfl (by omega) (cs' := ((canN ((cs.zip rr).take (k + 1)) ++ List.replicate (cs.length - (k + 1)) 0).map (Value.int .i64))) (by exact can_fill (0, false) hzl (by omega) hcv) trivial ?_
    refine .nil (.block_normal ?_)
    refine AK.then_ (hK9 _ ?_)
    refine AK.region ?_
    refine .v (.add rfl rfl (by omega)) ?_
    refine .mv rfl (.nil ?_)
    first | refine AK.then_ (hK6 _ _ (k + 1) (by omega) (by omega) (slr) (fun w hw => by rw [← ded_new (0, false) (by omega) hx]; exact hw.pick [0, 1] (by decide) rfl rfl)) | refine AK.then_ (hK6 _ _ (k + 1) (by omega) (by omega) (slr) (fun w hw => by rw [ded_old (0, false) (by omega) (by assumption)]; exact hw.pick [0, 1] (by decide) rfl rfl))
  ·refine .exit (.then_exit (.then_exit (.block_exit ?_)))
   refine AK.then_ (hK4 _ ?_)
   refine .sr fun _ hK16 => ?_
   refine .mv rfl (.as rfl (.nt hK16 (.ret ?_)))
   refine AK.ret1 rfl rfl (fun w hw => ⟨_, _, ?_, rfl, Ret.of (hw.pick [1] (by decide) rfl rfl)⟩)
   have e : (cs.zip rr).take k = (cs.zip rr) := List.take_of_length_le (by omega)
   refine ⟨smv, ?_⟩
   rw [e, show cs.length - k = 0 by omega, List.replicate_zero, List.append_nil]
   rfl

set_option maxHeartbeats 400000 in
set_option maxRecDepth 100000 in
theorem s_idx (w : World) (va : Value) (rows : List (List Bool)) (ha : RdLL (fun _ => False) Value.bool w va rows) (fG : Nat) (cG : List Value) (g : List Bool → Bool) (hcG : CallOk Try.prog fG) (hG : ∀ w', FrameX (fun _ => False) w w' → ∀ v l, l ∈ rows → RdL (fun _ => False) Value.bool w' v l → CallS Try.prog fG ([] ++ [v] ++ cG) w' (fun r o => r = .bool (g l) ∧ o = [])) : CallS Try.prog 57 [va, .func (.func fG) #[] cG.toArray] w (fun r o => ∃ z : Int, r = .int .i64 z ∧ ((∃ k : Nat, z = (k : Int) ∧ k < rows.length ∧ g (rows.getD k []) = true) ∨ (z = -1 ∧ ∀ k, k < rows.length → g (rows.getD k []) = false)) ∧ o = []) := by
 obtain ⟨ra, hral, hAr, hAi⟩ := ha
 have hmr := hAr.le
 refine spec_of Try.func57 rfl (Nat.le_of_ble_eq_true rfl) ?_
 refine .sr fun _ hK1 => ?_
 refine .as rfl (.nt hK1 ?_)
 refine .seq fun _ hK2 => ?_
 refine .sr fun _ hK3 => ?_
 refine .mv rfl ?_
 refine .v (.lenR sl88 rfl (by first | exact rdp | exact .arg hAr)) ?_
 refine .mv rfl (.nt hK3 (.block ?_))
 refine AK.loopK (X := Nat) [(0, _), (1, _), (7, _)] (fun k => [(8, .int .i64 (k : Int))]) (fun k => []) (fun k => k ≤ rows.length ∧ ∀ i, i < k → g (rows.getD i []) = false) (fun k => rows.length - k) (0) slr ?_ ?_ ?_ ?_
 ·exact ⟨Nat.zero_le _, fun i hi => (by cases hi)⟩
 ·exact slr
 ·exact fun w hw => hw
 ·intro k hg0 _ hK4
  refine .sr fun _ hK5 => ?_
  refine .v (.lss rfl rfl) ?_
  refine .nt hK5 ?_
  refine .seq fun _ hK6 => ?_
  refine AK.condD rfl (fun hc0 => ?_) (fun hc0 => ?_)
  ·refine .skip ?_
   refine AK.then_ (hK6 _ ?_)
   refine .seq fun _ hK7 => ?_
   refine .block ?_
   refine .sr fun _ hK8 => ?_
   refine .mv rfl (.as rfl (.nt hK8 ?_))
   refine .sr fun _ hK9 => ?_
   refine .mv rfl (.mv rfl (.mv rfl ?_))
   first | refine .v (.iN sl88 rfl rfl (hr := (by first | exact rdp | exact .arg hAr))) ?_ | refine .v (.iK sl88 rfl rfl (hr := (by first | exact rdp | exact .arg hAr))) ?_
   refine .v (.loadV on22 rfl (by first | exact rdp | exact .arg hAr) (by omega)) ?_
   refine AK.callV hcG rfl rfl (fun w hw => hG w hw.frame _ (rows.getD k []) (getD_mem (by omega)) ((hAi k (by omega)).at hw)) trivial rfl ?_
   rintro r o ⟨rfl, rfl⟩
   refine .nt hK9 ?_
   refine AK.cond rfl (fun hc1 => ?_) (fun hc1 => ?_)
   ·try simp only [bs] at hc1
    refine .sr fun _ hK10 => ?_
    refine .mv rfl (.as rfl (.nt hK10 (.ret (.block_ret (.then_ret (.then_ret (.block_ret (.then_ret ?_))))))))
    refine AK.ret1 rfl rfl (fun w hw => ⟨_, _, ?_, rfl, Ret.of (hw.pick [] (by decide) rfl rfl)⟩)
    exact ⟨(k : Int), rfl, .inl ⟨k, rfl, by omega, hc1⟩, rfl⟩
   ·try simp only [bs] at hc1
    refine .skip (.block_normal ?_)
    refine AK.then_ (hK7 _ ?_)
    refine AK.region ?_
    refine .v (.add rfl rfl (by omega)) ?_
    refine .mv rfl (.nil ?_)
    refine AK.then_ (hK4 _ _ (k + 1) ⟨by omega, all_succ hg0.2 (by simpa using hc1)⟩ (by omega) (slr) (fun w hw => hw))
  ·refine .exit (.then_exit (.then_exit (.block_exit ?_)))
   refine AK.then_ (hK2 _ ?_)
   refine .sr fun _ hK11 => ?_
   refine .as rfl (.nt hK11 (.ret ?_))
   refine AK.ret1 rfl rfl (fun w hw => ⟨_, _, ?_, rfl, Ret.of (hw.pick [] (by decide) rfl rfl)⟩)
   exact ⟨-1, rfl, .inr ⟨rfl, fun i hi => hg0.2 i (by omega)⟩, rfl⟩

set_option maxRecDepth 100000 in
theorem s_finer1 (w : World) (v : Value) (l : List Bool) (h : RdL (fun _ => False) Value.bool w v l) (b1 b2 : Nat) (p q : Int) (hb1 : BxA w b1 [.int .i64 p]) (hb2 : BxA w b2 [.int .i64 q]) (hp : 0 ≤ p ∧ p < l.length) (hq : 0 ≤ q ∧ q < l.length) : CallS Try.prog 58 [v, .pointer (some ⟨b1, 0, none⟩), .pointer (some ⟨b2, 0, none⟩)] w (fun r o => r = .bool (l.getD p.toNat false != l.getD q.toNat false) ∧ o = []) := by
 unfold RdL at h
 refine spec_of Try.func58 rfl (Nat.le_of_ble_eq_true rfl) ?_
 refine .sr fun _ hK1 => ?_
 refine .as rfl (.nt hK1 ?_)
 refine .seq fun _ hK2 => ?_
 refine AK.quiet mixed krf ?_
 refine .mv rfl ?_
 refine .v (.loadBox on3 rfl bsp rfl) ?_
 first | refine .v (.iN sl22 rfl rfl) ?_ | refine .v (.iK sl22 rfl rfl) ?_
 refine .v (.loadB on4 rfl rdp (by omega)) ?_
 refine .mv rfl ?_
 refine .v (.loadBox on3 rfl bsp rfl) ?_
 first | refine .v (.iN sl22 rfl rfl) ?_ | refine .v (.iK sl22 rfl rfl) ?_
 refine .v (.loadB on4 rfl rdp (by omega)) ?_
 refine .v (.neqB bo4 rfl rfl) ?_
 refine .as rfl ?_
 refine QK.nil (QK.fin ?_)
 refine AK.then_ (hK2 _ ?_)
 refine .ret ?_
 refine AK.ret1 rfl rfl (fun w hw => ⟨_, _, ?_, rfl, Ret.of (hw.pick [] (by decide) rfl rfl)⟩)
 exact ⟨rfl, rfl⟩

theorem fin_next {d : Dfa} {cs : List Int} (h : canN cs = cs) {q : Nat} (hq : q < cs.length) (h1 : ∀ p, p < q → ∀ y : Nat, (y : Int) < d.L → cs.getD (stepQ d ((p : Nat) : Int) y).toNat 0 = cs.getD (stepQ d ((fstI cs q).getD (cs.getD p 0).toNat 0) y).toNat 0) (h2 : ∀ y : Nat, (y : Int) < d.L → cs.getD (stepQ d ((q : Nat) : Int) y).toNat 0 = cs.getD (stepQ d ((fstI cs (q + 1)).getD (cs.getD q 0).toNat 0) y).toNat 0) :
    ∀ p, p < q + 1 → ∀ y : Nat, (y : Int) < d.L → cs.getD (stepQ d ((p : Nat) : Int) y).toNat 0 = cs.getD (stepQ d ((fstI cs (q + 1)).getD (cs.getD p 0).toNat 0) y).toNat 0 := by
  intro p hp y hy
  rcases Nat.lt_or_eq_of_le (Nat.le_of_lt_succ hp) with h3 | rfl
  · rw [(fstI_keep (fstI_has h q (by omega) p h3)).1]; exact h1 p h3 y hy
  · exact h2 y hy
def FineR (d : Dfa) (cs : List Int) (rows : List (List Bool)) (x z : Int) (ok : Bool) : Prop :=
  (ok = false → ∀ p q (x : Nat), InR d p → InR d q → (x : Int) < d.L → cs.getD p.toNat 0 = cs.getD q.toNat 0 → cs.getD (stepQ d p x).toNat 0 = cs.getD (stepQ d q x).toNat 0) ∧
  (ok = true → ∃ (p q : Int) (y : Nat), x = (y : Int) ∧ (y : Int) < d.L ∧ InR d p ∧ InR d q ∧ cs.getD p.toNat 0 = cs.getD q.toNat 0 ∧ cs.getD (stepQ d p y).toNat 0 ≠ cs.getD (stepQ d q y).toNat 0 ∧
    ((∃ k : Nat, z = (k : Int) ∧ k < rows.length ∧ (rows.getD k []).getD (stepQ d p y).toNat false ≠ (rows.getD k []).getD (stepQ d q y).toNat false) ∨ (z = -1 ∧ ∀ k, k < rows.length → (rows.getD k []).getD (stepQ d p y).toNat false = (rows.getD k []).getD (stepQ d q y).toNat false)))
set_option maxHeartbeats 1000000 in
set_option maxRecDepth 100000 in
theorem s_finer (w : World) (v : Value) (d : Dfa) (h : RdD (fun _ => False) w v d) (hv : VD d) (u : Value) (cs : List Int) (hu : RdL (fun _ => False) (Value.int .i64) w u cs) (hcl : cs.length = d.fin.length) (hcan : canN cs = cs) (va : Value) (rows : List (List Bool)) (ha : RdLL (fun _ => False) Value.bool w va rows) (hrw0 : ∀ l ∈ rows, l.length = d.fin.length) : CallS Try.prog 56 [v, u, va] w (fun r o => ∃ (x z : Int) (ok : Bool), r = .tuple #[.int .i64 x, .int .i64 z, .bool ok] ∧ FineR d cs rows x z ok ∧ o = []) := by
 have h0 := h
 obtain ⟨vF, vN, rfl, hF, hN⟩ := h
 have hF0 := hF
 have hN0 := hN
 obtain ⟨rs, hrl, hNr, hNi⟩ := hN
 have sF := hF.sl
 have sN := hNr.sl
 have hmf := hF.le
 have hmn := hNr.le
 unfold RdL at hF
 have hu0 := hu
 unfold RdL at hu
 have hdL := hv.L
 have hdnx := hv.nx
 have hdn := hv.n
 refine spec_of Try.func56 rfl (Nat.le_of_ble_eq_true rfl) ?_
 refine .sr fun _ hK1 => ?_
 refine AK.box_ (E := 25) (cs := [.int .i64 d.L, .int .i64 d.s, vF, vN]) rfl rfl rfl trivial rfl (fun bx3 => ?_)
 refine .as rfl (.as rfl (.as rfl (.nt hK1 ?_)))
 refine .sr fun _ hK2 => ?_
 refine .as rfl (.nt hK2 ?_)
 refine .seq fun _ hK3 => ?_
 refine .sr fun _ hK4 => ?_
 refine .mv rfl ?_
 refine .v (.lenR sl26 rfl (by first | exact rdp | exact .arg (hNi _ (by omega)))) ?_
 refine .mv rfl (.nt hK4 (.block ?_))
 refine AK.loopK (X := Value × Nat) [(1, _), (2, _), (3, _), (16, _), (17, _)] (fun y => [(9, y.1), (18, .int .i64 (y.2 : Int))]) (fun y => [box bx3 25 4 [.int .i64 d.L, .int .i64 d.s, vF, vN], row y.1 3 1 (fstI cs y.2).length ((fstI cs y.2).map (Value.int .i64))]) (fun y => y.2 ≤ cs.length ∧ IsSl y.1 ∧ ∀ p, p < y.2 → ∀ x : Nat, (x : Int) < d.L → cs.getD (stepQ d ((p : Nat) : Int) x).toNat 0 = cs.getD (stepQ d ((fstI cs y.2).getD (cs.getD p 0).toNat 0) x).toNat 0) (fun y => cs.length - y.2) ((.slice none 0 0, 0)) slr ?_ ?_ ?_ ?_
 ·exact ⟨Nat.zero_le _, nilSl, fun p hp => (by cases hp)⟩
 ·exact slr
 ·exact fun w hw => hw.ghost 3 1
 ·intro y hg0 _ hK5
  obtain ⟨yv, q⟩ := y
  dsimp only at *
  refine .sr fun _ hK6 => ?_
  refine .v (.lss rfl rfl) ?_
  refine .nt hK6 ?_
  refine .seq fun _ hK7 => ?_
  refine AK.condD rfl (fun hc0 => ?_) (fun hc0 => ?_)
  ·have hqn : q < d.fin.length := by omega
   have hrw := hv.row q hqn
   have hle := fstI_le hcan (k := q) (by omega)
   have hfb := fstI_bd cs q
   have hfh := fstI_has hcan (q + 1) (by omega) q (by omega)
   obtain ⟨hf1, hf2, hf3⟩ := fstI_at hcan (k := q + 1) (by omega) hfh
   have hfrw := hv.row ((fstI cs (q + 1)).getD (cs.getD q 0).toNat 0).toNat (by omega)
   have hself : cs.getD ((q : Nat) : Int).toNat 0 = cs.getD ((fstI cs (q + 1)).getD (cs.getD q 0).toNat 0).toNat 0 := by rw [hf3, Int.toNat_natCast]; omega
   refine .skip ?_
   refine AK.then_ (hK7 _ ?_)
   refine .seq fun _ hK8 => ?_
   refine .block ?_
   refine .sr fun _ hK9 => ?_
   refine .mv rfl ?_
   first | refine .v (.iN sl26 rfl rfl (hr := (by first | exact rdp | exact .arg (hNi _ (by omega))))) ?_ | refine .v (.iK sl26 rfl rfl (hr := (by first | exact rdp | exact .arg (hNi _ (by omega))))) ?_
   refine .v (.loadI on3 rfl (by first | exact rdp | exact .arg (hNi _ (by omega))) (by omega)) ?_
   refine .as rfl (.as rfl (.nt hK9 ?_))
   refine .seq fun _ hK10 => ?_
   refine .sr fun _ hK11 => ?_
   refine .mv rfl (.mv rfl ?_)
   refine .v (.lenR sl26 rfl (by first | exact rdp | exact .arg (hNi _ (by omega)))) ?_
   refine .v (.eql rfl rfl) ?_
   refine .nt hK11 ?_
   refine AK.condD rfl (fun hc1 => ?_) (fun hc1 => ?_)
   ·refine AK.region ?_
    refine .mv rfl (.mv rfl ?_)
    refine AK.append1 1 rfl sl26 el3 rfl (by decide) rfl (by intro k hk; cases hk; rfl) rfl (by intro u hu; simp [Value.cells] at hu; subst hu; rfl) (by omega) (by omega) (by decide) rfl rfl (fun z _ hz => ?_)
    refine .as rfl (.nt hK10 ?_)
    refine .sr fun _ hK12 => ?_
    refine .v (.fieldAddr fd25_3 rfl) ?_
    refine .v (.loadBox on23 rfl bsp rfl) ?_
    refine .mv rfl ?_
    first | refine .v (.iN sl23 rfl rfl (hr := (by first | exact rdp | exact .arg (hNi _ (by omega))))) ?_ | refine .v (.iK sl23 rfl rfl (hr := (by first | exact rdp | exact .arg (hNi _ (by omega))))) ?_
    refine .v (.loadV on26 rfl (by first | exact rdp | exact .arg (hNi _ (by omega))) (by omega)) ?_
    refine .v (.lenR sl26 rfl (by first | exact rdp | exact .arg (hNi _ (by omega)))) ?_
    refine .mv rfl (.nt hK12 (.block ?_))
    refine AK.loopK (X := Nat) [(1, _), (2, _), (3, _), (9, _), (11, _), (16, _), (17, _), (18, _), (35, _), (36, _)] (fun x => [(37, .int .i64 (x : Int))]) (fun x => [box bx3 25 4 [.int .i64 d.L, .int .i64 d.s, vF, vN], row z 3 1 (fstI cs (q + 1)).length ((fstI cs (q + 1)).map (Value.int .i64))]) (fun x => x ≤ (d.nx.getD q []).length ∧ ∀ y, y < x → cs.getD (stepQ d ((q : Nat) : Int) y).toNat 0 = cs.getD (stepQ d ((fstI cs (q + 1)).getD (cs.getD q 0).toNat 0) y).toNat 0) (fun x => (d.nx.getD q []).length - x) (0) slr ?_ ?_ ?_ ?_
    ·exact ⟨Nat.zero_le _, fun i hi => (by cases hi)⟩
    ·exact slr
    ·exact fun w hw => by first | (rw [fstI_skip (by omega)]; exact hw) | (rw [fstI_new (by omega), List.map_append, List.length_append]; exact hw)
    ·intro x hg1 _ hK13
     refine .sr fun _ hK14 => ?_
     refine .v (.lss rfl rfl) ?_
     refine .nt hK14 ?_
     refine .seq fun _ hK15 => ?_
     refine AK.condD rfl (fun hc2 => ?_) (fun hc2 => ?_)
     ·have hto := hv.to q x hqn (by omega)
      have hot := hv.to ((fstI cs (q + 1)).getD (cs.getD q 0).toNat 0).toNat x (by omega) (by omega)
      refine .skip ?_
      refine AK.then_ (hK15 _ ?_)
      refine .seq fun _ hK16 => ?_
      refine .block ?_
      refine .sr fun _ hK17 => ?_
      refine .mv rfl ?_
      first | refine .v (.iN sl26 rfl rfl (hr := (by first | exact rdp | exact .arg (hNi _ (by omega))))) ?_ | refine .v (.iK sl26 rfl rfl (hr := (by first | exact rdp | exact .arg (hNi _ (by omega))))) ?_
      refine .v (.loadI on3 rfl (by first | exact rdp | exact .arg (hNi _ (by omega))) (by omega)) ?_
      refine AK.alloc el3 rfl rfl trivial rfl (fun bx13 => ?_)
      refine .as rfl ?_
      refine AK.storeBox 2 (us := [.int .i64 ((d.nx.getD q []).getD x 0)]) (cs' := [.int .i64 ((d.nx.getD q []).getD x 0)]) rfl sz3 rfl rfl rfl rfl oneP (Nat.le_of_ble_eq_true rfl) rfl trivial ?_
      refine .nt hK17 ?_
      refine .seq fun _ hK18 => ?_
      refine AK.joinK (X := Nat) [(1, _), (2, _), (3, _), (9, _), (11, _), (12, _), (13, _), (16, _), (17, _), (18, _), (35, _), (36, _), (37, _)] (fun bn => [(14, .pointer (some ⟨bn, 0, none⟩))]) (fun bn => [box bx3 25 4 [.int .i64 d.L, .int .i64 d.s, vF, vN], row z 3 1 (fstI cs (q + 1)).length ((fstI cs (q + 1)).map (Value.int .i64)), box bx13 3 1 [.int .i64 ((d.nx.getD q []).getD x 0)], box bn 3 1 [.int .i64 ((d.nx.getD ((fstI cs (q + 1)).getD (cs.getD q 0).toNat 0).toNat []).getD x 0)]]) (fun bn => True) slr (fun _ hJ => ?_) (fun bn hg => ?_)
      ·try (conv => enter [2, 2]; dsimp only [List.set_cons_zero, List.set_cons_succ, List.cons_append, List.nil_append])
       refine AK.held 12 mixed ?_
       refine HeldK.first 0 (fuel := 12) (listed' := (lb 13 1)) _ rfl krf krf rfl (Yl.fieldAddr fd25_3 rfl) trivial rfl ?_
       refine HeldK.first 1 (fuel := 11) (listed' := (lb 13 3)) _ rfl krf krf rfl (Yl.loadBox on23 rfl bsp rfl) trivial rfl ?_
       refine HeldK.first 2 (fuel := 10) (listed' := (lb 13 7)) _ rfl krf krf rfl (Yl.move rfl) trivial rfl ?_
       refine HeldK.first 3 (fuel := 9) (listed' := (lb 13 15)) _ rfl krf krf rfl (Yl.move rfl) trivial rfl ?_
       first | refine HeldK.first 4 (fuel := 8) (listed' := (lb 13 31)) _ rfl krf krf rfl (.iN sl26 rfl rfl (hr := (by first | exact rdp | exact .arg (hNi _ (by omega))))) trivial rfl ?_ | refine HeldK.first 4 (fuel := 8) (listed' := (lb 13 31)) _ rfl krf krf rfl (.iK sl26 rfl rfl (hr := (by first | exact rdp | exact .arg (hNi _ (by omega))))) trivial rfl ?_
       refine HeldK.first 5 (fuel := 7) (listed' := (lb 13 63)) _ rfl krf krf rfl (Yl.loadI on3 rfl (by first | exact rdp | exact .arg (hNi _ (by omega))) (by omega)) trivial rfl ?_
       first | refine HeldK.first 6 (fuel := 6) (listed' := (lb 13 127)) _ rfl krf krf rfl (.iN sl23 rfl rfl (hr := (by first | exact rdp | exact .arg (hNi _ (by omega))))) trivial rfl ?_ | refine HeldK.first 6 (fuel := 6) (listed' := (lb 13 127)) _ rfl krf krf rfl (.iK sl23 rfl rfl (hr := (by first | exact rdp | exact .arg (hNi _ (by omega))))) trivial rfl ?_
       refine HeldK.first 7 (fuel := 5) (listed' := (lb 13 255)) _ rfl krf krf rfl (Yl.loadV on26 rfl (by first | exact rdp | exact .arg (hNi _ (by omega))) (by omega)) trivial rfl ?_
       refine HeldK.first 8 (fuel := 4) (listed' := (lb 13 511)) _ rfl krf krf rfl (Yl.move rfl) trivial rfl ?_
       first | refine HeldK.first 9 (fuel := 3) (listed' := (lb 13 1023)) _ rfl krf krf rfl (.iN sl26 rfl rfl (hr := (by first | exact rdp | exact .arg (hNi _ (by omega))))) trivial rfl ?_ | refine HeldK.first 9 (fuel := 3) (listed' := (lb 13 1023)) _ rfl krf krf rfl (.iK sl26 rfl rfl (hr := (by first | exact rdp | exact .arg (hNi _ (by omega))))) trivial rfl ?_
       refine HeldK.first 10 (fuel := 2) (listed' := (lb 13 2047)) _ rfl krf krf rfl (Yl.loadI on3 rfl (by first | exact rdp | exact .arg (hNi _ (by omega))) (by omega)) trivial rfl ?_
       refine HeldK.one 11 (fuel := 1) (listed' := (lb 13 4095)) krf rfl krf ?_
       refine AK.alloc el3 rfl rfl trivial rfl (fun bx14 => ?_)
       refine .nil ?_
       try (conv => enter [2, 2]; dsimp only [List.set_cons_zero, List.set_cons_succ, List.cons_append, List.nil_append])
       refine HeldK.back Go.Sx.hle ?_
       refine HeldK.one 12 (fuel := 0) (listed' := (lb 13 8191)) krf rfl krf ?_
       refine AK.storeBox 3 (us := [.int .i64 ((d.nx.getD ((fstI cs (q + 1)).getD (cs.getD q 0).toNat 0).toNat []).getD x 0)]) (cs' := [.int .i64 ((d.nx.getD ((fstI cs (q + 1)).getD (cs.getD q 0).toNat 0).toNat []).getD x 0)]) rfl sz3 rfl rfl rfl rfl oneP (Nat.le_of_ble_eq_true rfl) rfl trivial ?_
       refine .nil ?_
       try (conv => enter [2, 2]; dsimp only [List.set_cons_zero, List.set_cons_succ, List.cons_append, List.nil_append])
       refine HeldK.backN 13 krf rfl krf ?_
       refine .nil ?_
       refine AK.fromQn ?_
       exact hJ _ _ (bx14) trivial (slr) (fun w hw => by first | exact hw.pickLe [0, 1, 2, 3] (by decide) pkl)
      ·skip
       refine AK.then_ (hK18 _ ?_)
       refine .seq fun _ hK19 => ?_
       refine AK.quiet mixed krf ?_
       refine .mv rfl ?_
       refine .v (.loadBox on3 rfl bsp rfl) ?_
       first | refine .v (.iN sl26 rfl rfl (hr := (by first | exact rdp | exact .arg (hNi _ (by omega))))) ?_ | refine .v (.iK sl26 rfl rfl (hr := (by first | exact rdp | exact .arg (hNi _ (by omega))))) ?_
       refine .v (.loadI on3 rfl (by first | exact rdp | exact .arg (hNi _ (by omega))) (by omega)) ?_
       refine .mv rfl ?_
       refine .v (.loadBox on3 rfl bsp rfl) ?_
       first | refine .v (.iN sl26 rfl rfl (hr := (by first | exact rdp | exact .arg (hNi _ (by omega))))) ?_ | refine .v (.iK sl26 rfl rfl (hr := (by first | exact rdp | exact .arg (hNi _ (by omega))))) ?_
       refine .v (.loadI on3 rfl (by first | exact rdp | exact .arg (hNi _ (by omega))) (by omega)) ?_
       refine .v (.neq rfl rfl) ?_
       refine QK.nil (QK.fin ?_)
       refine AK.then_ (hK19 _ ?_)
       refine AK.condNe rfl (fun hc3 => ?_) (fun hc3 => ?_)
       ·refine .sr fun _ hK20 => ?_
        refine .mv rfl ?_
        refine .v (.makeFunc (first := []) (captured := [.tmp 13, .tmp 14]) rfl rfl) ?_
        refine AK.call co57 rfl (fun w hw => s_idx w va rows (ha.at hw) 58 [.pointer (some ⟨bx13, 0, none⟩), .pointer (some ⟨bn, 0, none⟩)] (fun l => l.getD ((d.nx.getD q []).getD x 0).toNat false != l.getD ((d.nx.getD ((fstI cs (q + 1)).getD (cs.getD q 0).toNat 0).toNat []).getD x 0).toNat false) co58 (fun w' hfr v l hm h => s_finer1 w' v l h bx13 bn _ _ ((BxA.own 2 hw rfl).fr hfr) ((BxA.own 3 hw rfl).fr hfr) (by rw [hrw0 l hm]; omega) (by rw [hrw0 l hm]; omega))) trivial rfl ?_
        rintro r o ⟨z2, rfl, hz2, rfl⟩
        refine .as rfl (.nt hK20 ?_)
        refine .sr fun _ hK21 => ?_
        refine .mv rfl (.mv rfl (.as rfl (.as rfl (.as rfl (.nt hK21 (.ret (.block_ret (.then_ret (.then_ret (.block_ret (.block_ret ?_)))))))))))
        refine .then_ret (.then_ret (.block_ret (.then_ret ?_)))
        refine AK.retG [.tmp 6, .tmp 7, .tmp 8] rfl (.cons (.tmp rfl) (.cons (.tmp rfl) (.cons (.tmp rfl) (.nil)))) (fun w hw => ⟨_, _, ?_, rfl, Ret.of (hw.pick [] (by decide) rfl rfl)⟩)
        refine ⟨_, _, _, rfl, ⟨fun h => (by cases h), fun _ => ⟨(q : Int), ((fstI cs (q + 1)).getD (cs.getD q 0).toNat 0), x, rfl, by omega, ⟨by omega, by omega⟩, ⟨by omega, by omega⟩, ?_, hc3, ?_⟩⟩, rfl⟩
        ·exact hself
        ·rcases hz2 with ⟨k, e, hk, hg⟩ | ⟨e, hg⟩
         ·exact .inl ⟨k, e, hk, bne_iff_ne.1 hg⟩
         ·exact .inr ⟨e, fun k hk => bne_eq_false_iff_eq.1 (hg k hk)⟩
       ·have hst : cs.getD (stepQ d ((q : Nat) : Int) x).toNat 0 = cs.getD (stepQ d ((fstI cs (q + 1)).getD (cs.getD q 0).toNat 0) x).toNat 0 := hc3
        refine .skip (.block_normal ?_)
        refine AK.then_ (hK16 _ ?_)
        refine AK.region ?_
        refine .v (.add rfl rfl (by omega)) ?_
        refine .mv rfl (.nil ?_)
        refine AK.then_ (hK13 _ _ (x + 1) ⟨by omega, all_succ hg1.2 hst⟩ (by omega) (slr) (fun w hw => hw.pick [0, 1] (by decide) rfl rfl))
     ·refine .exit (.then_exit (.then_exit (.block_exit (.block_normal ?_))))
      refine AK.then_ (hK8 _ ?_)
      refine AK.region ?_
      refine .v (.add rfl rfl (by omega)) ?_
      refine .mv rfl (.nil ?_)
      refine AK.then_ (hK5 _ _ ((z, q + 1)) ⟨by dsimp only; omega, hz, fin_next hcan (by omega) hg0.2.2 (fun x hx => hg1.2 x (by omega))⟩ (by dsimp only; omega) (slr) (fun w hw => hw))
   ·obtain ⟨z, ez⟩ : ∃ z, z = yv := ⟨_, rfl⟩
    have hz : IsSl z := by rw [ez]; exact hg0.2.1
    rw [← ez]
    refine .skip ?_
    refine AK.then_ (hK10 _ ?_)
    refine .sr fun _ hK22 => ?_
    refine .v (.fieldAddr fd25_3 rfl) ?_
    refine .v (.loadBox on23 rfl bsp rfl) ?_
    refine .mv rfl ?_
    first | refine .v (.iN sl23 rfl rfl (hr := (by first | exact rdp | exact .arg (hNi _ (by omega))))) ?_ | refine .v (.iK sl23 rfl rfl (hr := (by first | exact rdp | exact .arg (hNi _ (by omega))))) ?_
    refine .v (.loadV on26 rfl (by first | exact rdp | exact .arg (hNi _ (by omega))) (by omega)) ?_
    refine .v (.lenR sl26 rfl (by first | exact rdp | exact .arg (hNi _ (by omega)))) ?_
    refine .mv rfl (.nt hK22 (.block ?_))
    refine AK.loopK (X := Nat) [(1, _), (2, _), (3, _), (9, _), (11, _), (16, _), (17, _), (18, _), (35, _), (36, _)] (fun x => [(37, .int .i64 (x : Int))]) (fun x => [box bx3 25 4 [.int .i64 d.L, .int .i64 d.s, vF, vN], row z 3 1 (fstI cs (q + 1)).length ((fstI cs (q + 1)).map (Value.int .i64))]) (fun x => x ≤ (d.nx.getD q []).length ∧ ∀ y, y < x → cs.getD (stepQ d ((q : Nat) : Int) y).toNat 0 = cs.getD (stepQ d ((fstI cs (q + 1)).getD (cs.getD q 0).toNat 0) y).toNat 0) (fun x => (d.nx.getD q []).length - x) (0) slr ?_ ?_ ?_ ?_
    ·exact ⟨Nat.zero_le _, fun i hi => (by cases hi)⟩
    ·exact slr
    ·exact fun w hw => by first | (rw [fstI_skip (by omega)]; exact hw) | (rw [fstI_new (by omega), List.map_append, List.length_append]; exact hw)
    ·intro x hg1 _ hK23
     refine .sr fun _ hK24 => ?_
     refine .v (.lss rfl rfl) ?_
     refine .nt hK24 ?_
     refine .seq fun _ hK25 => ?_
     refine AK.condD rfl (fun hc2 => ?_) (fun hc2 => ?_)
     ·have hto := hv.to q x hqn (by omega)
      have hot := hv.to ((fstI cs (q + 1)).getD (cs.getD q 0).toNat 0).toNat x (by omega) (by omega)
      refine .skip ?_
      refine AK.then_ (hK25 _ ?_)
      refine .seq fun _ hK26 => ?_
      refine .block ?_
      refine .sr fun _ hK27 => ?_
      refine .mv rfl ?_
      first | refine .v (.iN sl26 rfl rfl (hr := (by first | exact rdp | exact .arg (hNi _ (by omega))))) ?_ | refine .v (.iK sl26 rfl rfl (hr := (by first | exact rdp | exact .arg (hNi _ (by omega))))) ?_
      refine .v (.loadI on3 rfl (by first | exact rdp | exact .arg (hNi _ (by omega))) (by omega)) ?_
      refine AK.alloc el3 rfl rfl trivial rfl (fun bx13 => ?_)
      refine .as rfl ?_
      refine AK.storeBox 2 (us := [.int .i64 ((d.nx.getD q []).getD x 0)]) (cs' := [.int .i64 ((d.nx.getD q []).getD x 0)]) rfl sz3 rfl rfl rfl rfl oneP (Nat.le_of_ble_eq_true rfl) rfl trivial ?_
      refine .nt hK27 ?_
      refine .seq fun _ hK28 => ?_
      refine AK.joinK (X := Nat) [(1, _), (2, _), (3, _), (9, _), (11, _), (12, _), (13, _), (16, _), (17, _), (18, _), (35, _), (36, _), (37, _)] (fun bn => [(14, .pointer (some ⟨bn, 0, none⟩))]) (fun bn => [box bx3 25 4 [.int .i64 d.L, .int .i64 d.s, vF, vN], row z 3 1 (fstI cs (q + 1)).length ((fstI cs (q + 1)).map (Value.int .i64)), box bx13 3 1 [.int .i64 ((d.nx.getD q []).getD x 0)], box bn 3 1 [.int .i64 ((d.nx.getD ((fstI cs (q + 1)).getD (cs.getD q 0).toNat 0).toNat []).getD x 0)]]) (fun bn => True) slr (fun _ hJ => ?_) (fun bn hg => ?_)
      ·try (conv => enter [2, 2]; dsimp only [List.set_cons_zero, List.set_cons_succ, List.cons_append, List.nil_append])
       refine AK.held 12 mixed ?_
       refine HeldK.first 0 (fuel := 12) (listed' := (lb 13 1)) _ rfl krf krf rfl (Yl.fieldAddr fd25_3 rfl) trivial rfl ?_
       refine HeldK.first 1 (fuel := 11) (listed' := (lb 13 3)) _ rfl krf krf rfl (Yl.loadBox on23 rfl bsp rfl) trivial rfl ?_
       refine HeldK.first 2 (fuel := 10) (listed' := (lb 13 7)) _ rfl krf krf rfl (Yl.move rfl) trivial rfl ?_
       refine HeldK.first 3 (fuel := 9) (listed' := (lb 13 15)) _ rfl krf krf rfl (Yl.move rfl) trivial rfl ?_
       first | refine HeldK.first 4 (fuel := 8) (listed' := (lb 13 31)) _ rfl krf krf rfl (.iN sl26 rfl rfl (hr := (by first | exact rdp | exact .arg (hNi _ (by omega))))) trivial rfl ?_ | refine HeldK.first 4 (fuel := 8) (listed' := (lb 13 31)) _ rfl krf krf rfl (.iK sl26 rfl rfl (hr := (by first | exact rdp | exact .arg (hNi _ (by omega))))) trivial rfl ?_
       refine HeldK.first 5 (fuel := 7) (listed' := (lb 13 63)) _ rfl krf krf rfl (Yl.loadI on3 rfl (by first | exact rdp | exact .arg (hNi _ (by omega))) (by omega)) trivial rfl ?_
       first | refine HeldK.first 6 (fuel := 6) (listed' := (lb 13 127)) _ rfl krf krf rfl (.iN sl23 rfl rfl (hr := (by first | exact rdp | exact .arg (hNi _ (by omega))))) trivial rfl ?_ | refine HeldK.first 6 (fuel := 6) (listed' := (lb 13 127)) _ rfl krf krf rfl (.iK sl23 rfl rfl (hr := (by first | exact rdp | exact .arg (hNi _ (by omega))))) trivial rfl ?_
       refine HeldK.first 7 (fuel := 5) (listed' := (lb 13 255)) _ rfl krf krf rfl (Yl.loadV on26 rfl (by first | exact rdp | exact .arg (hNi _ (by omega))) (by omega)) trivial rfl ?_
       refine HeldK.first 8 (fuel := 4) (listed' := (lb 13 511)) _ rfl krf krf rfl (Yl.move rfl) trivial rfl ?_
       first | refine HeldK.first 9 (fuel := 3) (listed' := (lb 13 1023)) _ rfl krf krf rfl (.iN sl26 rfl rfl (hr := (by first | exact rdp | exact .arg (hNi _ (by omega))))) trivial rfl ?_ | refine HeldK.first 9 (fuel := 3) (listed' := (lb 13 1023)) _ rfl krf krf rfl (.iK sl26 rfl rfl (hr := (by first | exact rdp | exact .arg (hNi _ (by omega))))) trivial rfl ?_
       refine HeldK.first 10 (fuel := 2) (listed' := (lb 13 2047)) _ rfl krf krf rfl (Yl.loadI on3 rfl (by first | exact rdp | exact .arg (hNi _ (by omega))) (by omega)) trivial rfl ?_
       refine HeldK.one 11 (fuel := 1) (listed' := (lb 13 4095)) krf rfl krf ?_
       refine AK.alloc el3 rfl rfl trivial rfl (fun bx14 => ?_)
       refine .nil ?_
       try (conv => enter [2, 2]; dsimp only [List.set_cons_zero, List.set_cons_succ, List.cons_append, List.nil_append])
       refine HeldK.back Go.Sx.hle ?_
       refine HeldK.one 12 (fuel := 0) (listed' := (lb 13 8191)) krf rfl krf ?_
       refine AK.storeBox 3 (us := [.int .i64 ((d.nx.getD ((fstI cs (q + 1)).getD (cs.getD q 0).toNat 0).toNat []).getD x 0)]) (cs' := [.int .i64 ((d.nx.getD ((fstI cs (q + 1)).getD (cs.getD q 0).toNat 0).toNat []).getD x 0)]) rfl sz3 rfl rfl rfl rfl oneP (Nat.le_of_ble_eq_true rfl) rfl trivial ?_
       refine .nil ?_
       try (conv => enter [2, 2]; dsimp only [List.set_cons_zero, List.set_cons_succ, List.cons_append, List.nil_append])
       refine HeldK.backN 13 krf rfl krf ?_
       refine .nil ?_
       refine AK.fromQn ?_
       exact hJ _ _ (bx14) trivial (slr) (fun w hw => by first | exact hw.pickLe [0, 1, 2, 3] (by decide) pkl)
      ·skip
       refine AK.then_ (hK28 _ ?_)
       refine .seq fun _ hK29 => ?_
       refine AK.quiet mixed krf ?_
       refine .mv rfl ?_
       refine .v (.loadBox on3 rfl bsp rfl) ?_
       first | refine .v (.iN sl26 rfl rfl (hr := (by first | exact rdp | exact .arg (hNi _ (by omega))))) ?_ | refine .v (.iK sl26 rfl rfl (hr := (by first | exact rdp | exact .arg (hNi _ (by omega))))) ?_
       refine .v (.loadI on3 rfl (by first | exact rdp | exact .arg (hNi _ (by omega))) (by omega)) ?_
       refine .mv rfl ?_
       refine .v (.loadBox on3 rfl bsp rfl) ?_
       first | refine .v (.iN sl26 rfl rfl (hr := (by first | exact rdp | exact .arg (hNi _ (by omega))))) ?_ | refine .v (.iK sl26 rfl rfl (hr := (by first | exact rdp | exact .arg (hNi _ (by omega))))) ?_
       refine .v (.loadI on3 rfl (by first | exact rdp | exact .arg (hNi _ (by omega))) (by omega)) ?_
       refine .v (.neq rfl rfl) ?_
       refine QK.nil (QK.fin ?_)
       refine AK.then_ (hK29 _ ?_)
       refine AK.condNe rfl (fun hc3 => ?_) (fun hc3 => ?_)
       ·refine .sr fun _ hK30 => ?_
        refine .mv rfl ?_
        refine .v (.makeFunc (first := []) (captured := [.tmp 13, .tmp 14]) rfl rfl) ?_
        refine AK.call co57 rfl (fun w hw => s_idx w va rows (ha.at hw) 58 [.pointer (some ⟨bx13, 0, none⟩), .pointer (some ⟨bn, 0, none⟩)] (fun l => l.getD ((d.nx.getD q []).getD x 0).toNat false != l.getD ((d.nx.getD ((fstI cs (q + 1)).getD (cs.getD q 0).toNat 0).toNat []).getD x 0).toNat false) co58 (fun w' hfr v l hm h => s_finer1 w' v l h bx13 bn _ _ ((BxA.own 2 hw rfl).fr hfr) ((BxA.own 3 hw rfl).fr hfr) (by rw [hrw0 l hm]; omega) (by rw [hrw0 l hm]; omega))) trivial rfl ?_
        rintro r o ⟨z2, rfl, hz2, rfl⟩
        refine .as rfl (.nt hK30 ?_)
        refine .sr fun _ hK31 => ?_
        refine .mv rfl (.mv rfl (.as rfl (.as rfl (.as rfl (.nt hK31 (.ret (.block_ret (.then_ret (.then_ret (.block_ret (.block_ret ?_)))))))))))
        refine .then_ret (.then_ret (.block_ret (.then_ret ?_)))
        refine AK.retG [.tmp 6, .tmp 7, .tmp 8] rfl (.cons (.tmp rfl) (.cons (.tmp rfl) (.cons (.tmp rfl) (.nil)))) (fun w hw => ⟨_, _, ?_, rfl, Ret.of (hw.pick [] (by decide) rfl rfl)⟩)
        refine ⟨_, _, _, rfl, ⟨fun h => (by cases h), fun _ => ⟨(q : Int), ((fstI cs (q + 1)).getD (cs.getD q 0).toNat 0), x, rfl, by omega, ⟨by omega, by omega⟩, ⟨by omega, by omega⟩, ?_, hc3, ?_⟩⟩, rfl⟩
        ·exact hself
        ·rcases hz2 with ⟨k, e, hk, hg⟩ | ⟨e, hg⟩
         ·exact .inl ⟨k, e, hk, bne_iff_ne.1 hg⟩
         ·exact .inr ⟨e, fun k hk => bne_eq_false_iff_eq.1 (hg k hk)⟩
       ·have hst : cs.getD (stepQ d ((q : Nat) : Int) x).toNat 0 = cs.getD (stepQ d ((fstI cs (q + 1)).getD (cs.getD q 0).toNat 0) x).toNat 0 := hc3
        refine .skip (.block_normal ?_)
        refine AK.then_ (hK26 _ ?_)
        refine AK.region ?_
        refine .v (.add rfl rfl (by omega)) ?_
        refine .mv rfl (.nil ?_)
        refine AK.then_ (hK23 _ _ (x + 1) ⟨by omega, all_succ hg1.2 hst⟩ (by omega) (slr) (fun w hw => hw.pick [0, 1] (by decide) rfl rfl))
     ·refine .exit (.then_exit (.then_exit (.block_exit (.block_normal ?_))))
      refine AK.then_ (hK8 _ ?_)
      refine AK.region ?_
      refine .v (.add rfl rfl (by omega)) ?_
      refine .mv rfl (.nil ?_)
      refine AK.then_ (hK5 _ _ ((z, q + 1)) ⟨by dsimp only; omega, hz, fin_next hcan (by omega) hg0.2.2 (fun x hx => hg1.2 x (by omega))⟩ (by dsimp only; omega) (slr) (fun w hw => hw))
  ·refine .exit (.then_exit (.then_exit (.block_exit ?_)))
   refine AK.then_ (hK3 _ ?_)
   refine .sr fun _ hK32 => ?_
   refine .as rfl (.as rfl (.as rfl (.nt hK32 (.ret ?_))))
   refine AK.retG [.tmp 6, .tmp 7, .tmp 8] rfl (.cons (.tmp rfl) (.cons (.tmp rfl) (.cons (.tmp rfl) (.nil)))) (fun w hw => ⟨_, _, ?_, rfl, Ret.of (hw.pick [] (by decide) rfl rfl)⟩)
   refine ⟨_, _, _, rfl, ⟨fun _ p q x hp hq hx he => ?_, fun h => (by cases h)⟩, rfl⟩
   have hp1 := hp.1
   have hp2 := hp.2
   have hq1 := hq.1
   have hq2 := hq.2
   have h1 := hg0.2.2 p.toNat (by omega) x hx
   have h2 := hg0.2.2 q.toNat (by omega) x hx
   rw [show ((p.toNat : Nat) : Int) = p by omega] at h1
   rw [show ((q.toNat : Nat) : Int) = q by omega] at h2
   rw [h1, h2, he]

end Go.Proofs.Ytoikhoniogicdaa
