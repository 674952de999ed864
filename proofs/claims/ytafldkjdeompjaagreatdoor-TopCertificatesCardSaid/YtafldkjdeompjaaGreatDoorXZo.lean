import Derived.Test.YtafldkjdeompjaaGreatDoorXZn
import Derived.Test.YtafldkjdeompjaaGreatDoorXZj
import Derived.Test.YtafldkjdeompjaaGreatDoorXZk
import Derived.Test.YtafldkjdeompjaaGreatDoorXZm
import Derived.Test.YtafldkjdeompjaaGreatDoorXZb
import Derived.Test.YtafldkjdeompjaaGreatDoorXZc
set_option linter.unusedVariables false
set_option linter.unusedSimpArgs false
set_option maxRecDepth 100000
namespace Go.Proofs.YtafldkjdeompjaaGreatDoor
open Go.Sx Go.RowKit
def halfB (P : Program) (kt : TypeId) : Bool := match P.underlying kt with
  | some (.struct fs) => match fs.toList with
    | [f0, f1] => (match P.underlying f0.type with | some (.int .i64) => true | _ => false) && (match P.underlying f1.type with | some .bool => true | _ => false) && f0.offset == 0 && f1.offset == 1 && f0.name != "_" && f1.name != "_" && !P.stoodInHeld kt
    | _ => false
  | _ => false
theorem keyHalf_of {P : Program} {kt : TypeId} (h : halfB P kt = true) : KeyL P kt hbv := by
  unfold halfB at h
  split at h
  case h_2 => cases h
  rename_i fs hu
  split at h
  case h_2 => cases h
  rename_i f0 f1 hf
  have e : fs = #[f0, f1] := Array.toList_inj.1 (by simpa using hf)
  subst e
  simp only [Bool.and_eq_true, beq_iff_eq, bne_iff_ne, Bool.not_eq_true'] at h
  obtain ⟨⟨⟨⟨⟨⟨h0, h1⟩, o0⟩, o1⟩, n0⟩, n1⟩, hp⟩ := h
  split at h0
  case h_2 => cases h0
  rename_i u0
  split at h1
  case h_2 => cases h1
  rename_i u1
  exact keyHalf hu u0 u1 o0 o1 n0 n1 hp
theorem kl127 : KeyL Tryz.prog 127 hbv := keyHalf_of (by kernel_rfl)
theorem Yl.loadHalf {C : Cx} {sl : List (Nat × Value)} {own : List Asn} {dst : Option Nat} {ty : TypeId} {pos : String} {aft : Array Edge} {g : Option (Nat × Bool)} {x : Operand} {t b : Nat} {p : Int × Bool} (ht : AggT C.P t 2) (hx : opv ⟨sl, own⟩ x = some (.pointer (some ⟨b, 0, none⟩))) (hb : BoxS C own b [.int .i64 p.1, .bool p.2]) :
    Yl C ⟨sl, own⟩ ⟨dst, .load t x, ty, pos, aft, g⟩ (hbv p) := Yl.loadBoxG (us := [.int .i64 p.1, .bool p.2]) ht hx hb rfl rfl
/-! the first state of each class -/
def fstI (cs : List Int) (k : Nat) : List Int := (fstK cs k).map fun (j : Nat) => (j : Int)
theorem fstI_len (cs : List Int) (k : Nat) : (fstI cs k).length = (fstK cs k).length := by simp [fstI]
theorem fstI_skip {cs : List Int} {k : Nat} (h : cs.getD k 0 < (fstI cs k).length) : fstI cs (k + 1) = fstI cs k := by rw [fstI_len] at h; unfold fstI; rw [fstK_skip h]
theorem fstI_new {cs : List Int} {k : Nat} (h : ¬ cs.getD k 0 < (fstI cs k).length) : fstI cs (k + 1) = fstI cs k ++ [(k : Int)] := by rw [fstI_len] at h; unfold fstI; rw [fstK_new h]; simp
theorem fstI_le {cs : List Int} (h : canN cs = cs) {k : Nat} (hk : k < cs.length) : cs.getD k 0 ≤ (fstI cs k).length ∧ 0 ≤ cs.getD k 0 := by rw [fstI_len]; exact fstK_le h hk
theorem fstI_bd (cs : List Int) (k : Nat) : (fstI cs k).length ≤ k := by rw [fstI_len]; exact fstK_bd cs k
theorem fstI_at {cs : List Int} (h : canN cs = cs) {k : Nat} (hk : k ≤ cs.length) {c : Nat} (hc : c < (fstI cs k).length) : 0 ≤ (fstI cs k).getD c 0 ∧ (fstI cs k).getD c 0 < k ∧ cs.getD ((fstI cs k).getD c 0).toNat 0 = (c : Int) := by
  rw [fstI_len] at hc
  have h1 := (fstK_ok h k hk).2 c hc
  have e : (fstI cs k).getD c 0 = (((fstK cs k).getD c 0 : Nat) : Int) := by simp [fstI, List.getD_eq_getElem?_getD, hc]
  rw [e, Int.toNat_natCast]
  exact ⟨by omega, by omega, h1.2⟩
theorem fstI_keep {cs : List Int} {k : Nat} {c : Nat} (hc : c < (fstI cs k).length) : (fstI cs (k + 1)).getD c 0 = (fstI cs k).getD c 0 ∧ c < (fstI cs (k + 1)).length := by
  by_cases h : cs.getD k 0 < (fstI cs k).length
  · rw [fstI_skip h]; exact ⟨rfl, hc⟩
  · rw [fstI_new h]; exact ⟨getD_app 0 hc, by rw [List.length_append]; omega⟩
theorem fstI_has {cs : List Int} (h : canN cs = cs) : ∀ k, k ≤ cs.length → ∀ p, p < k → (cs.getD p 0).toNat < (fstI cs k).length
  | 0, _, p, hp => by cases hp
  | k + 1, hk, p, hp => by
    have hle := fstI_le h (k := k) (by omega)
    rcases Nat.lt_or_eq_of_le (Nat.le_of_lt_succ hp) with h1 | rfl
    · exact (fstI_keep (fstI_has h k (by omega) p h1)).2
    · by_cases h2 : cs.getD p 0 < (fstI cs p).length
      · rw [fstI_skip h2]; omega
      · rw [fstI_new h2, List.length_append, List.length_cons, List.length_nil]; omega
set_option maxHeartbeats 600000 in
theorem s_split (w : World) (u v : Value) (cs : List Int) (rr : List Bool) (hu : RdL (fun _ => False) (Value.int .i64) w u cs) (hv : RdL (fun _ => False) Value.bool w v rr) (hl : rr.length = cs.length) (hb0 : cs.length ≤ 100000) : CallS Tryz.prog 48 [u, v] w (fun r o => IsSl r ∧ o = [row r 3 1 cs.length ((spl cs rr).map (Value.int .i64))]) := by
 have hb := hu.le
 unfold RdL at hu hv
 have hzl : (cs.zip rr).length = cs.length := by rw [List.length_zip, hl, Nat.min_self]
 refine spec_of Tryz.func48 rfl (leb rfl) ?_
 refine .sr fun _ hK1 => ?_
 refine .as rfl (.nt hK1 ?_)
 refine .sr fun _ hK2 => ?_
 refine AK.makeMap trivial rfl (fun mb => ?_)
 refine .as rfl (.nt hK2 ?_)
 refine .sr fun _ hK3 => ?_
 refine .mv rfl ?_
 refine .v (.lenR sl28 rfl rdp) ?_
 refine AK.make1 (n := cs.length) sl28 el3 rfl rfl rfl (by omega) (by omega) trivial rfl (fun mv => ?_)
 refine AK.shape 1 rfl (fun smv => ?_)
 refine .as rfl (.nt hK3 ?_)
 refine .seq fun _ hK4 => ?_
 refine .sr fun _ hK5 => ?_
 refine .mv rfl ?_
 refine .v (.lenR sl28 rfl rdp) ?_
 refine .mv rfl (.nt hK5 (.block ?_))
 refine AK.loopK (X := Nat) [(1, _), (5, _), (6, _), (16, _), (17, _)] (fun k => [(18, .int .i64 (k : Int))]) (fun k => [mapA mb (mkv hbv (Value.int .i64) (numM (ded ((cs.zip rr).take k)))), row mv 3 1 cs.length ((canN ((cs.zip rr).take k) ++ List.replicate (cs.length - k) 0).map (Value.int .i64))]) (fun k => k ≤ cs.length) (fun k => cs.length - k) (0) slr ?_ ?_ ?_ ?_
 ·exact Nat.zero_le _
 ·exact slr
 ·exact fun w hw => by have e : ((canN ((cs.zip rr).take 0) ++ List.replicate (cs.length - 0) 0).map (Value.int .i64)) = List.replicate cs.length (Value.int .i64 0) := (by simp [canN]); rw [e]; exact hw
 ·intro k hg0 _ hK6
  refine .sr fun _ hK7 => ?_
  refine .v (.lss rfl rfl) ?_
  refine .nt hK7 ?_
  refine .seq fun _ hK8 => ?_
  refine AK.condD rfl (fun hc0 => ?_) (fun hc0 => ?_)
  ·have hdl := ded_le ((cs.zip rr).take k)
   rw [List.length_take] at hdl
   have hnl := numM_len (ded ((cs.zip rr).take k))
   have hz := zip_get (cs := cs) (row := rr) (i := k) (by omega) (by omega)
   refine .skip ?_
   refine AK.then_ (hK8 _ ?_)
   refine .seq fun _ hK9 => ?_
   refine .block ?_
   refine .sr fun _ hK10 => ?_
   refine .mv rfl ?_
   first | refine .v (.iN sl28 rfl rfl) ?_ | refine .v (.iK sl28 rfl rfl) ?_
   refine .v (.loadI on3 rfl rdp (by omega)) ?_
   refine .as rfl (.as rfl (.nt hK10 ?_))
   refine .sr fun _ hK11 => ?_
   refine .mv rfl (.mv rfl (.mv rfl ?_))
   first | refine .v (.iN sl22 rfl rfl) ?_ | refine .v (.iK sl22 rfl rfl) ?_
   refine .v (.loadB on4 rfl rdp (by omega)) ?_
   refine .v (.build (parts := [(0, .tmp 23), (1, .tmp 27)]) (cs := #[.int .i64 (cs.getD k 0), .bool (rr.getD k false)]) rfl (by kernel_rfl)) ?_
   refine AK.alloc el127 rfl rfl trivial rfl (fun bx9 => ?_)
   refine AK.storeBox 2 (us := [.int .i64 (cs.getD k 0), .bool (rr.getD k false)]) (cs' := [.int .i64 (cs.getD k 0), .bool (rr.getD k false)]) rfl sz127 rfl rfl rfl rfl oneP (leb rfl) rfl trivial ?_
   refine .nt hK11 ?_
   refine .sr fun _ hK12 => ?_
   refine .mv rfl ?_
   first | refine AK.val (hbv ((cs.zip rr).getD k (0, false))) (Yl.loadHalf ag127 rfl (by rw [hz]; exact BoxS.own 2 rfl)) trivial rfl ?_
   refine .v (.lookup2I mp125 kl127 el3 rfl rfl msp) ?_
   refine .mv rfl ?_
   refine .v (.extract rfl rfl) ?_
   refine .v (.extract rfl rfl) ?_
   refine .as rfl (.as rfl (.nt hK12 ?_))
   refine .seq fun _ hK13 => ?_
   refine .sr fun _ hK14 => ?_
   refine .mv rfl ?_
   refine .v (.not rfl) ?_
   refine .nt hK14 ?_
   refine AK.condB rfl (fun hc1 => ?_) (fun hc1 => ?_)
   ·obtain ⟨hx, hcv⟩ := num_new hc1
    refine .sr fun _ hK15 => ?_
    refine .mv rfl ?_
    refine .v (.lenM mp125 rfl msp) ?_
    refine .as rfl (.nt hK15 ?_)
    refine AK.region ?_
    refine .mv rfl ?_
    first | refine AK.val (hbv ((cs.zip rr).getD k (0, false))) (Yl.loadHalf ag127 rfl (by rw [hz]; exact BoxS.own 2 rfl)) trivial rfl ?_
    refine .mv rfl ?_
    refine AK.mapSet 0 rfl mp125 kl127 rfl rfl rfl trivial ?_
    refine .nt hK13 ?_
    refine AK.region ?_
    refine .mv rfl (.mv rfl (.mv rfl ?_))
    first | refine .v (.iN sl28 rfl rfl) ?_ | refine .v (.iK sl28 rfl rfl) ?_
    refine AK.store1e 1 rfl sz3 rfl rfl rfl rfl (by omega) (cs' := ((canN ((cs.zip rr).take (k + 1)) ++ List.replicate (cs.length - (k + 1)) 0).map (Value.int .i64))) (by exact can_fill (0, false) hzl (by omega) hcv) trivial ?_
    refine .nil (.block_normal ?_)
    refine AK.then_ (hK9 _ ?_)
    refine AK.region ?_
    refine .v (.add rfl rfl (by omega)) ?_
    refine .mv rfl (.nil ?_)
    first | refine AK.then_ (hK6 _ _ (k + 1) (by omega) (by omega) (slr) (fun w hw => by rw [← ded_new (0, false) (by omega) hx]; exact hw.pick [0, 1] (by decide) rfl rfl)) | refine AK.then_ (hK6 _ _ (k + 1) (by omega) (by omega) (slr) (fun w hw => by rw [ded_old (0, false) (by omega) (by assumption)]; exact hw.pick [0, 1] (by decide) rfl rfl))
   ·obtain ⟨hx, hcv⟩ := num_old hc1
    refine .skip ?_
    refine AK.then_ (hK13 _ ?_)
    refine AK.region ?_
    refine .mv rfl (.mv rfl (.mv rfl ?_))
    first | refine .v (.iN sl28 rfl rfl) ?_ | refine .v (.iK sl28 rfl rfl) ?_
    refine AK.store1e 1 rfl sz3 rfl rfl rfl rfl (by omega) (cs' := ((canN ((cs.zip rr).take (k + 1)) ++ List.replicate (cs.length - (k + 1)) 0).map (Value.int .i64))) (by exact can_fill (0, false) hzl (by omega) hcv) trivial ?_
    refine .nil (.block_normal ?_)
    refine AK.then_ (hK9 _ ?_)
    refine AK.region ?_
    refine .v (.add rfl rfl (by omega)) ?_
    refine .mv rfl (.nil ?_)
    first | refine AK.then_ (hK6 _ _ (k + 1) (by omega) (by omega) (slr) (fun w hw => by rw [← ded_new (0, false) (by omega) hx]; exact hw.pick [0, 1] (by decide) rfl rfl)) | refine AK.then_ (hK6 _ _ (k + 1) (by omega) (by omega) (slr) (fun w hw => by rw [ded_old (0, false) (by omega) (by assumption)]; exact hw.pick [0, 1] (by decide) rfl rfl))
  ·refine .exit (.then_exit (.then_exit (.block_exit ?_)))
   refine AK.then_ (hK4 _ ?_)
   refine .sr fun _ hK16 => ?_
   refine .mv rfl (.as rfl (.nt hK16 (.ret ?_)))
   refine AK.ret1 rfl rfl (fun w hw => ⟨_, _, ?_, rfl, Ret.of (hw.pick [1] (by decide) rfl rfl)⟩)
   have e : (cs.zip rr).take k = (cs.zip rr) := List.take_of_length_le (by omega)
   refine ⟨smv, ?_⟩
   rw [e, show cs.length - k = 0 by omega, List.replicate_zero, List.append_nil]
   rfl

set_option maxHeartbeats 400000 in
theorem s_idx (w : World) (va : Value) (rows : List (List Bool)) (ha : RdLL (fun _ => False) Value.bool w va rows) (fG : Nat) (cG : List Value) (g : List Bool → Bool) (hcG : CallOk Tryz.prog fG) (hG : ∀ w', FrameX (fun _ => False) w w' → ∀ v l, l ∈ rows → RdL (fun _ => False) Value.bool w' v l → CallS Tryz.prog fG ([] ++ [v] ++ cG) w' (fun r o => r = .bool (g l) ∧ o = [])) : CallS Tryz.prog 71 [va, .func (.func fG) #[] cG.toArray] w (fun r o => ∃ z : Int, r = .int .i64 z ∧ ((∃ k : Nat, z = (k : Int) ∧ k < rows.length ∧ g (rows.getD k []) = true) ∨ (z = -1 ∧ ∀ k, k < rows.length → g (rows.getD k []) = false)) ∧ o = []) := by
 obtain ⟨ra, hral, hAr, hAi⟩ := ha
 have hmr := hAr.le
 refine spec_of Tryz.func71 rfl (leb rfl) ?_
 refine .sr fun _ hK1 => ?_
 refine .as rfl (.nt hK1 ?_)
 refine .seq fun _ hK2 => ?_
 refine .sr fun _ hK3 => ?_
 refine .mv rfl ?_
 refine .v (.lenR sl85 rfl (by first | exact rdp | exact .arg hAr)) ?_
 refine .mv rfl (.nt hK3 (.block ?_))
 refine AK.loopK (X := Nat) [(0, _), (1, _), (7, _)] (fun k => [(8, .int .i64 (k : Int))]) (fun k => []) (fun k => k ≤ rows.length ∧ ∀ i, i < k → g (rows.getD i []) = false) (fun k => rows.length - k) (0) slr ?_ ?_ ?_ ?_
 ·exact ⟨Nat.zero_le _, fun i hi => (by cases hi)⟩
 ·exact slr
 ·exact fun w hw => hw
 ·intro k hg0 _ hK4
  refine .sr fun _ hK5 => ?_
  refine .v (.lss rfl rfl) ?_
  refine .nt hK5 ?_
  refine .seq fun _ hK6 => ?_
  refine AK.condD rfl (fun hc0 => ?_) (fun hc0 => ?_)
  ·refine .skip ?_
   refine AK.then_ (hK6 _ ?_)
   refine .seq fun _ hK7 => ?_
   refine .block ?_
   refine .sr fun _ hK8 => ?_
   refine .mv rfl (.as rfl (.nt hK8 ?_))
   refine .sr fun _ hK9 => ?_
   refine .mv rfl (.mv rfl (.mv rfl ?_))
   first | refine .v (.iN sl85 rfl rfl (hr := (by first | exact rdp | exact .arg hAr))) ?_ | refine .v (.iK sl85 rfl rfl (hr := (by first | exact rdp | exact .arg hAr))) ?_
   refine .v (.loadV on22 rfl (by first | exact rdp | exact .arg hAr) (by omega)) ?_
   refine AK.callV hcG rfl rfl (fun w hw => hG w hw.frame _ (rows.getD k []) (getD_mem (by omega)) ((hAi k (by omega)).at hw)) trivial rfl ?_
   rintro r o ⟨rfl, rfl⟩
   refine .nt hK9 ?_
   refine AK.cond rfl (fun hc1 => ?_) (fun hc1 => ?_)
   ·try simp only [bs] at hc1
    refine .sr fun _ hK10 => ?_
    refine .mv rfl (.as rfl (.nt hK10 (.ret (.block_ret (.then_ret (.then_ret (.block_ret (.then_ret ?_))))))))
    refine AK.ret1 rfl rfl (fun w hw => ⟨_, _, ?_, rfl, Ret.of (hw.pick [] (by decide) rfl rfl)⟩)
    exact ⟨(k : Int), rfl, .inl ⟨k, rfl, by omega, hc1⟩, rfl⟩
   ·try simp only [bs] at hc1
    refine .skip (.block_normal ?_)
    refine AK.then_ (hK7 _ ?_)
    refine AK.region ?_
    refine .v (.add rfl rfl (by omega)) ?_
    refine .mv rfl (.nil ?_)
    refine AK.then_ (hK4 _ _ (k + 1) ⟨by omega, all_succ hg0.2 (by simpa using hc1)⟩ (by omega) (slr) (fun w hw => hw))
  ·refine .exit (.then_exit (.then_exit (.block_exit ?_)))
   refine AK.then_ (hK2 _ ?_)
   refine .sr fun _ hK11 => ?_
   refine .as rfl (.nt hK11 (.ret ?_))
   refine AK.ret1 rfl rfl (fun w hw => ⟨_, _, ?_, rfl, Ret.of (hw.pick [] (by decide) rfl rfl)⟩)
   exact ⟨-1, rfl, .inr ⟨rfl, fun i hi => hg0.2 i (by omega)⟩, rfl⟩

theorem s_finer1 (w : World) (v : Value) (l : List Bool) (h : RdL (fun _ => False) Value.bool w v l) (b1 b2 : Nat) (p q : Int) (hb1 : BxA w b1 [.int .i64 p]) (hb2 : BxA w b2 [.int .i64 q]) (hp : 0 ≤ p ∧ p < l.length) (hq : 0 ≤ q ∧ q < l.length) : CallS Tryz.prog 72 [v, .pointer (some ⟨b1, 0, none⟩), .pointer (some ⟨b2, 0, none⟩)] w (fun r o => r = .bool (l.getD p.toNat false != l.getD q.toNat false) ∧ o = []) := by
 unfold RdL at h
 refine spec_of Tryz.func72 rfl (leb rfl) ?_
 refine .sr fun _ hK1 => ?_
 refine .as rfl (.nt hK1 ?_)
 refine .seq fun _ hK2 => ?_
 refine AK.quiet mixed krf ?_
 refine .mv rfl ?_
 refine .v (.loadBox on3 rfl bsp rfl) ?_
 first | refine .v (.iN sl22 rfl rfl) ?_ | refine .v (.iK sl22 rfl rfl) ?_
 refine .v (.loadB on4 rfl rdp (by omega)) ?_
 refine .mv rfl ?_
 refine .v (.loadBox on3 rfl bsp rfl) ?_
 first | refine .v (.iN sl22 rfl rfl) ?_ | refine .v (.iK sl22 rfl rfl) ?_
 refine .v (.loadB on4 rfl rdp (by omega)) ?_
 refine .v (.neqB bo4 rfl rfl) ?_
 refine .as rfl ?_
 refine QK.nil (QK.fin ?_)
 refine AK.then_ (hK2 _ ?_)
 refine .ret ?_
 refine AK.ret1 rfl rfl (fun w hw => ⟨_, _, ?_, rfl, Ret.of (hw.pick [] (by decide) rfl rfl)⟩)
 exact ⟨rfl, rfl⟩

theorem fin_next {d : Dfa} {cs : List Int} (h : canN cs = cs) {q : Nat} (hq : q < cs.length) (h1 : ∀ p, p < q → ∀ y : Nat, (y : Int) < d.L → cs.getD (stepQ d ((p : Nat) : Int) y).toNat 0 = cs.getD (stepQ d ((fstI cs q).getD (cs.getD p 0).toNat 0) y).toNat 0) (h2 : ∀ y : Nat, (y : Int) < d.L → cs.getD (stepQ d ((q : Nat) : Int) y).toNat 0 = cs.getD (stepQ d ((fstI cs (q + 1)).getD (cs.getD q 0).toNat 0) y).toNat 0) :
    ∀ p, p < q + 1 → ∀ y : Nat, (y : Int) < d.L → cs.getD (stepQ d ((p : Nat) : Int) y).toNat 0 = cs.getD (stepQ d ((fstI cs (q + 1)).getD (cs.getD p 0).toNat 0) y).toNat 0 := by
  intro p hp y hy
  rcases Nat.lt_or_eq_of_le (Nat.le_of_lt_succ hp) with h3 | rfl
  · rw [(fstI_keep (fstI_has h q (by omega) p h3)).1]; exact h1 p h3 y hy
  · exact h2 y hy
def FineR (d : Dfa) (cs : List Int) (rows : List (List Bool)) (x z : Int) (ok : Bool) : Prop :=
  (ok = false → ∀ p q (x : Nat), InR d p → InR d q → (x : Int) < d.L → cs.getD p.toNat 0 = cs.getD q.toNat 0 → cs.getD (stepQ d p x).toNat 0 = cs.getD (stepQ d q x).toNat 0) ∧
  (ok = true → ∃ (p q : Int) (y : Nat), x = (y : Int) ∧ (y : Int) < d.L ∧ InR d p ∧ InR d q ∧ cs.getD p.toNat 0 = cs.getD q.toNat 0 ∧ cs.getD (stepQ d p y).toNat 0 ≠ cs.getD (stepQ d q y).toNat 0 ∧
    ((∃ k : Nat, z = (k : Int) ∧ k < rows.length ∧ (rows.getD k []).getD (stepQ d p y).toNat false ≠ (rows.getD k []).getD (stepQ d q y).toNat false) ∨ (z = -1 ∧ ∀ k, k < rows.length → (rows.getD k []).getD (stepQ d p y).toNat false = (rows.getD k []).getD (stepQ d q y).toNat false)))
set_option maxHeartbeats 1000000 in
theorem s_finer (w : World) (v : Value) (d : Dfa) (h : RdD (fun _ => False) w v d) (hv : VD d) (u : Value) (cs : List Int) (hu : RdL (fun _ => False) (Value.int .i64) w u cs) (hcl : cs.length = d.fin.length) (hcan : canN cs = cs) (va : Value) (rows : List (List Bool)) (ha : RdLL (fun _ => False) Value.bool w va rows) (hrw0 : ∀ l ∈ rows, l.length = d.fin.length) : CallS Tryz.prog 49 [v, u, va] w (fun r o => ∃ (x z : Int) (ok : Bool), r = .tuple #[.int .i64 x, .int .i64 z, .bool ok] ∧ FineR d cs rows x z ok ∧ o = []) := by
 have h0 := h
 obtain ⟨vF, vN, rfl, hF, hN⟩ := h
 have hF0 := hF
 have hN0 := hN
 obtain ⟨rs, hrl, hNr, hNi⟩ := hN
 have sF := hF.sl
 have sN := hNr.sl
 have hmf := hF.le
 have hmn := hNr.le
 unfold RdL at hF
 have hu0 := hu
 unfold RdL at hu
 have hdL := hv.L
 have hdnx := hv.nx
 have hdn := hv.n
 refine spec_of Tryz.func49 rfl (leb rfl) ?_
 refine .sr fun _ hK1 => ?_
 refine AK.box_ (E := 25) (cs := [.int .i64 d.L, .int .i64 d.s, vF, vN]) rfl rfl rfl trivial rfl (fun bx3 => ?_)
 refine .as rfl (.as rfl (.as rfl (.nt hK1 ?_)))
 refine .sr fun _ hK2 => ?_
 refine .as rfl (.nt hK2 ?_)
 refine .seq fun _ hK3 => ?_
 refine .sr fun _ hK4 => ?_
 refine .mv rfl ?_
 refine .v (.lenR sl28 rfl (by first | exact rdp | exact .arg (hNi _ (by omega)))) ?_
 refine .mv rfl (.nt hK4 (.block ?_))
 refine AK.loopK (X := Value × Nat) [(1, _), (2, _), (3, _), (16, _), (17, _)] (fun y => [(9, y.1), (18, .int .i64 (y.2 : Int))]) (fun y => [box bx3 25 4 [.int .i64 d.L, .int .i64 d.s, vF, vN], row y.1 3 1 (fstI cs y.2).length ((fstI cs y.2).map (Value.int .i64))]) (fun y => y.2 ≤ cs.length ∧ IsSl y.1 ∧ ∀ p, p < y.2 → ∀ x : Nat, (x : Int) < d.L → cs.getD (stepQ d ((p : Nat) : Int) x).toNat 0 = cs.getD (stepQ d ((fstI cs y.2).getD (cs.getD p 0).toNat 0) x).toNat 0) (fun y => cs.length - y.2) ((.slice none 0 0, 0)) slr ?_ ?_ ?_ ?_
 ·exact ⟨Nat.zero_le _, nilSl, fun p hp => (by cases hp)⟩
 ·exact slr
 ·exact fun w hw => hw.ghost 3 1
 ·intro y hg0 _ hK5
  obtain ⟨yv, q⟩ := y
  dsimp only at *
  refine .sr fun _ hK6 => ?_
  refine .v (.lss rfl rfl) ?_
  refine .nt hK6 ?_
  refine .seq fun _ hK7 => ?_
  refine AK.condD rfl (fun hc0 => ?_) (fun hc0 => ?_)
  ·have hqn : q < d.fin.length := by omega
   have hrw := hv.row q hqn
   have hle := fstI_le hcan (k := q) (by omega)
   have hfb := fstI_bd cs q
   have hfh := fstI_has hcan (q + 1) (by omega) q (by omega)
   obtain ⟨hf1, hf2, hf3⟩ := fstI_at hcan (k := q + 1) (by omega) hfh
   have hfrw := hv.row ((fstI cs (q + 1)).getD (cs.getD q 0).toNat 0).toNat (by omega)
   have hself : cs.getD ((q : Nat) : Int).toNat 0 = cs.getD ((fstI cs (q + 1)).getD (cs.getD q 0).toNat 0).toNat 0 := by rw [hf3, Int.toNat_natCast]; omega
   refine .skip ?_
   refine AK.then_ (hK7 _ ?_)
   refine .seq fun _ hK8 => ?_
   refine .block ?_
   refine .sr fun _ hK9 => ?_
   refine .mv rfl ?_
   first | refine .v (.iN sl28 rfl rfl (hr := (by first | exact rdp | exact .arg (hNi _ (by omega))))) ?_ | refine .v (.iK sl28 rfl rfl (hr := (by first | exact rdp | exact .arg (hNi _ (by omega))))) ?_
   refine .v (.loadI on3 rfl (by first | exact rdp | exact .arg (hNi _ (by omega))) (by omega)) ?_
   refine .as rfl (.as rfl (.nt hK9 ?_))
   refine .seq fun _ hK10 => ?_
   refine .sr fun _ hK11 => ?_
   refine .mv rfl (.mv rfl ?_)
   refine .v (.lenR sl28 rfl (by first | exact rdp | exact .arg (hNi _ (by omega)))) ?_
   refine .v (.eql rfl rfl) ?_
   refine .nt hK11 ?_
   refine AK.condD rfl (fun hc1 => ?_) (fun hc1 => ?_)
   ·refine AK.region ?_
    refine .mv rfl (.mv rfl ?_)
    refine AK.append1 1 rfl sl28 el3 rfl (by decide) rfl (by intro k hk; cases hk; rfl) rfl (by intro u hu; simp [Value.cells] at hu; subst hu; rfl) (by omega) (by omega) (by decide) rfl rfl (fun z _ hz => ?_)
    refine .as rfl (.nt hK10 ?_)
    refine .sr fun _ hK12 => ?_
    refine .v (.fieldAddr fd25_3 rfl) ?_
    refine .v (.loadBox on23 rfl bsp rfl) ?_
    refine .mv rfl ?_
    first | refine .v (.iN sl23 rfl rfl (hr := (by first | exact rdp | exact .arg (hNi _ (by omega))))) ?_ | refine .v (.iK sl23 rfl rfl (hr := (by first | exact rdp | exact .arg (hNi _ (by omega))))) ?_
    refine .v (.loadV on28 rfl (by first | exact rdp | exact .arg (hNi _ (by omega))) (by omega)) ?_
    refine .v (.lenR sl28 rfl (by first | exact rdp | exact .arg (hNi _ (by omega)))) ?_
    refine .mv rfl (.nt hK12 (.block ?_))
    refine AK.loopK (X := Nat) [(1, _), (2, _), (3, _), (9, _), (11, _), (16, _), (17, _), (18, _), (35, _), (36, _)] (fun x => [(37, .int .i64 (x : Int))]) (fun x => [box bx3 25 4 [.int .i64 d.L, .int .i64 d.s, vF, vN], row z 3 1 (fstI cs (q + 1)).length ((fstI cs (q + 1)).map (Value.int .i64))]) (fun x => x ≤ (d.nx.getD q []).length ∧ ∀ y, y < x → cs.getD (stepQ d ((q : Nat) : Int) y).toNat 0 = cs.getD (stepQ d ((fstI cs (q + 1)).getD (cs.getD q 0).toNat 0) y).toNat 0) (fun x => (d.nx.getD q []).length - x) (0) slr ?_ ?_ ?_ ?_
    ·exact ⟨Nat.zero_le _, fun i hi => (by cases hi)⟩
    ·exact slr
    ·exact fun w hw => by first | (rw [fstI_skip (by omega)]; exact hw) | (rw [fstI_new (by omega), List.map_append, List.length_append]; exact hw)
    ·intro x hg1 _ hK13
     refine .sr fun _ hK14 => ?_
     refine .v (.lss rfl rfl) ?_
     refine .nt hK14 ?_
     refine .seq fun _ hK15 => ?_
     refine AK.condD rfl (fun hc2 => ?_) (fun hc2 => ?_)
     ·have hto := hv.to q x hqn (by omega)
      have hot := hv.to ((fstI cs (q + 1)).getD (cs.getD q 0).toNat 0).toNat x (by omega) (by omega)
      refine .skip ?_
      refine AK.then_ (hK15 _ ?_)
      refine .seq fun _ hK16 => ?_
      refine .block ?_
      refine .sr fun _ hK17 => ?_
      refine .mv rfl ?_
      first | refine .v (.iN sl28 rfl rfl (hr := (by first | exact rdp | exact .arg (hNi _ (by omega))))) ?_ | refine .v (.iK sl28 rfl rfl (hr := (by first | exact rdp | exact .arg (hNi _ (by omega))))) ?_
      refine .v (.loadI on3 rfl (by first | exact rdp | exact .arg (hNi _ (by omega))) (by omega)) ?_
      refine AK.alloc el3 rfl rfl trivial rfl (fun bx13 => ?_)
      refine .as rfl ?_
      refine AK.storeBox 2 (us := [.int .i64 ((d.nx.getD q []).getD x 0)]) (cs' := [.int .i64 ((d.nx.getD q []).getD x 0)]) rfl sz3 rfl rfl rfl rfl oneP (leb rfl) rfl trivial ?_
      refine .nt hK17 ?_
      refine .seq fun _ hK18 => ?_
      refine AK.joinK (X := Nat) [(1, _), (2, _), (3, _), (9, _), (11, _), (12, _), (13, _), (16, _), (17, _), (18, _), (35, _), (36, _), (37, _)] (fun bn => [(14, .pointer (some ⟨bn, 0, none⟩))]) (fun bn => [box bx3 25 4 [.int .i64 d.L, .int .i64 d.s, vF, vN], row z 3 1 (fstI cs (q + 1)).length ((fstI cs (q + 1)).map (Value.int .i64)), box bx13 3 1 [.int .i64 ((d.nx.getD q []).getD x 0)], box bn 3 1 [.int .i64 ((d.nx.getD ((fstI cs (q + 1)).getD (cs.getD q 0).toNat 0).toNat []).getD x 0)]]) (fun bn => True) slr (fun _ hJ => ?_) (fun bn hg => ?_)
      ·try (conv => enter [2, 2]; simp only [nrm])
       refine AK.held 12 mixed ?_
       refine HeldK.first 0 (fuel := 12) (listed' := (lb 13 1)) _ rfl krf krf rfl (Yl.fieldAddr fd25_3 rfl) trivial rfl ?_
       refine HeldK.first 1 (fuel := 11) (listed' := (lb 13 3)) _ rfl krf krf rfl (Yl.loadBox on23 rfl bsp rfl) trivial rfl ?_
       refine HeldK.first 2 (fuel := 10) (listed' := (lb 13 7)) _ rfl krf krf rfl (Yl.move rfl) trivial rfl ?_
       refine HeldK.first 3 (fuel := 9) (listed' := (lb 13 15)) _ rfl krf krf rfl (Yl.move rfl) trivial rfl ?_
       first | refine HeldK.first 4 (fuel := 8) (listed' := (lb 13 31)) _ rfl krf krf rfl (.iN sl28 rfl rfl (hr := (by first | exact rdp | exact .arg (hNi _ (by omega))))) trivial rfl ?_ | refine HeldK.first 4 (fuel := 8) (listed' := (lb 13 31)) _ rfl krf krf rfl (.iK sl28 rfl rfl (hr := (by first | exact rdp | exact .arg (hNi _ (by omega))))) trivial rfl ?_
       refine HeldK.first 5 (fuel := 7) (listed' := (lb 13 63)) _ rfl krf krf rfl (Yl.loadI on3 rfl (by first | exact rdp | exact .arg (hNi _ (by omega))) (by omega)) trivial rfl ?_
       first | refine HeldK.first 6 (fuel := 6) (listed' := (lb 13 127)) _ rfl krf krf rfl (.iN sl23 rfl rfl (hr := (by first | exact rdp | exact .arg (hNi _ (by omega))))) trivial rfl ?_ | refine HeldK.first 6 (fuel := 6) (listed' := (lb 13 127)) _ rfl krf krf rfl (.iK sl23 rfl rfl (hr := (by first | exact rdp | exact .arg (hNi _ (by omega))))) trivial rfl ?_
       refine HeldK.first 7 (fuel := 5) (listed' := (lb 13 255)) _ rfl krf krf rfl (Yl.loadV on28 rfl (by first | exact rdp | exact .arg (hNi _ (by omega))) (by omega)) trivial rfl ?_
       refine HeldK.first 8 (fuel := 4) (listed' := (lb 13 511)) _ rfl krf krf rfl (Yl.move rfl) trivial rfl ?_
       first | refine HeldK.first 9 (fuel := 3) (listed' := (lb 13 1023)) _ rfl krf krf rfl (.iN sl28 rfl rfl (hr := (by first | exact rdp | exact .arg (hNi _ (by omega))))) trivial rfl ?_ | refine HeldK.first 9 (fuel := 3) (listed' := (lb 13 1023)) _ rfl krf krf rfl (.iK sl28 rfl rfl (hr := (by first | exact rdp | exact .arg (hNi _ (by omega))))) trivial rfl ?_
       refine HeldK.first 10 (fuel := 2) (listed' := (lb 13 2047)) _ rfl krf krf rfl (Yl.loadI on3 rfl (by first | exact rdp | exact .arg (hNi _ (by omega))) (by omega)) trivial rfl ?_
       refine HeldK.one 11 (fuel := 1) (listed' := (lb 13 4095)) krf rfl krf ?_
       refine AK.alloc el3 rfl rfl trivial rfl (fun bx14 => ?_)
       refine .nil ?_
       try (conv => enter [2, 2]; simp only [nrm])
       refine HeldK.back Go.Sx.hle ?_
       refine HeldK.one 12 (fuel := 0) (listed' := (lb 13 8191)) krf rfl krf ?_
       refine AK.storeBox 3 (us := [.int .i64 ((d.nx.getD ((fstI cs (q + 1)).getD (cs.getD q 0).toNat 0).toNat []).getD x 0)]) (cs' := [.int .i64 ((d.nx.getD ((fstI cs (q + 1)).getD (cs.getD q 0).toNat 0).toNat []).getD x 0)]) rfl sz3 rfl rfl rfl rfl oneP (leb rfl) rfl trivial ?_
       refine .nil ?_
       try (conv => enter [2, 2]; simp only [nrm])
       refine HeldK.backN 13 krf rfl krf ?_
       refine .nil ?_
       refine AK.fromQn ?_
       exact hJ _ _ (bx14) trivial (slr) (fun w hw => by first | exact hw.pickLe [0, 1, 2, 3] (by decide) pkl)
      ·skip
       refine AK.then_ (hK18 _ ?_)
       refine .seq fun _ hK19 => ?_
       refine AK.quiet mixed krf ?_
       refine .mv rfl ?_
       refine .v (.loadBox on3 rfl bsp rfl) ?_
       first | refine .v (.iN sl28 rfl rfl (hr := (by first | exact rdp | exact .arg (hNi _ (by omega))))) ?_ | refine .v (.iK sl28 rfl rfl (hr := (by first | exact rdp | exact .arg (hNi _ (by omega))))) ?_
       refine .v (.loadI on3 rfl (by first | exact rdp | exact .arg (hNi _ (by omega))) (by omega)) ?_
       refine .mv rfl ?_
       refine .v (.loadBox on3 rfl bsp rfl) ?_
       first | refine .v (.iN sl28 rfl rfl (hr := (by first | exact rdp | exact .arg (hNi _ (by omega))))) ?_ | refine .v (.iK sl28 rfl rfl (hr := (by first | exact rdp | exact .arg (hNi _ (by omega))))) ?_
       refine .v (.loadI on3 rfl (by first | exact rdp | exact .arg (hNi _ (by omega))) (by omega)) ?_
       refine .v (.neq rfl rfl) ?_
       refine QK.nil (QK.fin ?_)
       refine AK.then_ (hK19 _ ?_)
       refine AK.condNe rfl (fun hc3 => ?_) (fun hc3 => ?_)
       ·refine .sr fun _ hK20 => ?_
        refine .mv rfl ?_
        refine .v (.makeFunc (first := []) (captured := [.tmp 13, .tmp 14]) rfl rfl) ?_
        refine AK.call co71 rfl (fun w hw => s_idx w va rows (ha.at hw) 72 [.pointer (some ⟨bx13, 0, none⟩), .pointer (some ⟨bn, 0, none⟩)] (fun l => l.getD ((d.nx.getD q []).getD x 0).toNat false != l.getD ((d.nx.getD ((fstI cs (q + 1)).getD (cs.getD q 0).toNat 0).toNat []).getD x 0).toNat false) co72 (fun w' hfr v l hm h => s_finer1 w' v l h bx13 bn _ _ ((BxA.own 2 hw rfl).fr hfr) ((BxA.own 3 hw rfl).fr hfr) (by rw [hrw0 l hm]; omega) (by rw [hrw0 l hm]; omega))) trivial rfl ?_
        rintro r o ⟨z2, rfl, hz2, rfl⟩
        refine .as rfl (.nt hK20 ?_)
        refine .sr fun _ hK21 => ?_
        refine .mv rfl (.mv rfl (.as rfl (.as rfl (.as rfl (.nt hK21 (.ret (.block_ret (.then_ret (.then_ret (.block_ret (.block_ret ?_)))))))))))
        refine .then_ret (.then_ret (.block_ret (.then_ret ?_)))
        refine AK.retG [.tmp 6, .tmp 7, .tmp 8] rfl (.cons (.tmp rfl) (.cons (.tmp rfl) (.cons (.tmp rfl) (.nil)))) (fun w hw => ⟨_, _, ?_, rfl, Ret.of (hw.pick [] (by decide) rfl rfl)⟩)
        refine ⟨_, _, _, rfl, ⟨fun h => (by cases h), fun _ => ⟨(q : Int), ((fstI cs (q + 1)).getD (cs.getD q 0).toNat 0), x, rfl, by omega, ⟨by omega, by omega⟩, ⟨by omega, by omega⟩, ?_, hc3, ?_⟩⟩, rfl⟩
        ·exact hself
        ·rcases hz2 with ⟨k, e, hk, hg⟩ | ⟨e, hg⟩
         ·exact .inl ⟨k, e, hk, bne_iff_ne.1 hg⟩
         ·exact .inr ⟨e, fun k hk => bne_eq_false_iff_eq.1 (hg k hk)⟩
       ·have hst : cs.getD (stepQ d ((q : Nat) : Int) x).toNat 0 = cs.getD (stepQ d ((fstI cs (q + 1)).getD (cs.getD q 0).toNat 0) x).toNat 0 := hc3
        refine .skip (.block_normal ?_)
        refine AK.then_ (hK16 _ ?_)
        refine AK.region ?_
        refine .v (.add rfl rfl (by omega)) ?_
        refine .mv rfl (.nil ?_)
        refine AK.then_ (hK13 _ _ (x + 1) ⟨by omega, all_succ hg1.2 hst⟩ (by omega) (slr) (fun w hw => hw.pick [0, 1] (by decide) rfl rfl))
     ·refine .exit (.then_exit (.then_exit (.block_exit (.block_normal ?_))))
      refine AK.then_ (hK8 _ ?_)
      refine AK.region ?_
      refine .v (.add rfl rfl (by omega)) ?_
      refine .mv rfl (.nil ?_)
      refine AK.then_ (hK5 _ _ ((z, q + 1)) ⟨by dsimp only; omega, hz, fin_next hcan (by omega) hg0.2.2 (fun x hx => hg1.2 x (by omega))⟩ (by dsimp only; omega) (slr) (fun w hw => hw))
   ·obtain ⟨z, ez⟩ : ∃ z, z = yv := ⟨_, rfl⟩
    have hz : IsSl z := by rw [ez]; exact hg0.2.1
    rw [← ez]
    refine .skip ?_
    refine AK.then_ (hK10 _ ?_)
    refine .sr fun _ hK22 => ?_
    refine .v (.fieldAddr fd25_3 rfl) ?_
    refine .v (.loadBox on23 rfl bsp rfl) ?_
    refine .mv rfl ?_
    first | refine .v (.iN sl23 rfl rfl (hr := (by first | exact rdp | exact .arg (hNi _ (by omega))))) ?_ | refine .v (.iK sl23 rfl rfl (hr := (by first | exact rdp | exact .arg (hNi _ (by omega))))) ?_
    refine .v (.loadV on28 rfl (by first | exact rdp | exact .arg (hNi _ (by omega))) (by omega)) ?_
    refine .v (.lenR sl28 rfl (by first | exact rdp | exact .arg (hNi _ (by omega)))) ?_
    refine .mv rfl (.nt hK22 (.block ?_))
    refine AK.loopK (X := Nat) [(1, _), (2, _), (3, _), (9, _), (11, _), (16, _), (17, _), (18, _), (35, _), (36, _)] (fun x => [(37, .int .i64 (x : Int))]) (fun x => [box bx3 25 4 [.int .i64 d.L, .int .i64 d.s, vF, vN], row z 3 1 (fstI cs (q + 1)).length ((fstI cs (q + 1)).map (Value.int .i64))]) (fun x => x ≤ (d.nx.getD q []).length ∧ ∀ y, y < x → cs.getD (stepQ d ((q : Nat) : Int) y).toNat 0 = cs.getD (stepQ d ((fstI cs (q + 1)).getD (cs.getD q 0).toNat 0) y).toNat 0) (fun x => (d.nx.getD q []).length - x) (0) slr ?_ ?_ ?_ ?_
    ·exact ⟨Nat.zero_le _, fun i hi => (by cases hi)⟩
    ·exact slr
    ·exact fun w hw => by first | (rw [fstI_skip (by omega)]; exact hw) | (rw [fstI_new (by omega), List.map_append, List.length_append]; exact hw)
    ·intro x hg1 _ hK23
     refine .sr fun _ hK24 => ?_
     refine .v (.lss rfl rfl) ?_
     refine .nt hK24 ?_
     refine .seq fun _ hK25 => ?_
     refine AK.condD rfl (fun hc2 => ?_) (fun hc2 => ?_)
     ·have hto := hv.to q x hqn (by omega)
      have hot := hv.to ((fstI cs (q + 1)).getD (cs.getD q 0).toNat 0).toNat x (by omega) (by omega)
      refine .skip ?_
      refine AK.then_ (hK25 _ ?_)
      refine .seq fun _ hK26 => ?_
      refine .block ?_
      refine .sr fun _ hK27 => ?_
      refine .mv rfl ?_
      first | refine .v (.iN sl28 rfl rfl (hr := (by first | exact rdp | exact .arg (hNi _ (by omega))))) ?_ | refine .v (.iK sl28 rfl rfl (hr := (by first | exact rdp | exact .arg (hNi _ (by omega))))) ?_
      refine .v (.loadI on3 rfl (by first | exact rdp | exact .arg (hNi _ (by omega))) (by omega)) ?_
      refine AK.alloc el3 rfl rfl trivial rfl (fun bx13 => ?_)
      refine .as rfl ?_
      refine AK.storeBox 2 (us := [.int .i64 ((d.nx.getD q []).getD x 0)]) (cs' := [.int .i64 ((d.nx.getD q []).getD x 0)]) rfl sz3 rfl rfl rfl rfl oneP (leb rfl) rfl trivial ?_
      refine .nt hK27 ?_
      refine .seq fun _ hK28 => ?_
      refine AK.joinK (X := Nat) [(1, _), (2, _), (3, _), (9, _), (11, _), (12, _), (13, _), (16, _), (17, _), (18, _), (35, _), (36, _), (37, _)] (fun bn => [(14, .pointer (some ⟨bn, 0, none⟩))]) (fun bn => [box bx3 25 4 [.int .i64 d.L, .int .i64 d.s, vF, vN], row z 3 1 (fstI cs (q + 1)).length ((fstI cs (q + 1)).map (Value.int .i64)), box bx13 3 1 [.int .i64 ((d.nx.getD q []).getD x 0)], box bn 3 1 [.int .i64 ((d.nx.getD ((fstI cs (q + 1)).getD (cs.getD q 0).toNat 0).toNat []).getD x 0)]]) (fun bn => True) slr (fun _ hJ => ?_) (fun bn hg => ?_)
      ·try (conv => enter [2, 2]; simp only [nrm])
       refine AK.held 12 mixed ?_
       refine HeldK.first 0 (fuel := 12) (listed' := (lb 13 1)) _ rfl krf krf rfl (Yl.fieldAddr fd25_3 rfl) trivial rfl ?_
       refine HeldK.first 1 (fuel := 11) (listed' := (lb 13 3)) _ rfl krf krf rfl (Yl.loadBox on23 rfl bsp rfl) trivial rfl ?_
       refine HeldK.first 2 (fuel := 10) (listed' := (lb 13 7)) _ rfl krf krf rfl (Yl.move rfl) trivial rfl ?_
       refine HeldK.first 3 (fuel := 9) (listed' := (lb 13 15)) _ rfl krf krf rfl (Yl.move rfl) trivial rfl ?_
       first | refine HeldK.first 4 (fuel := 8) (listed' := (lb 13 31)) _ rfl krf krf rfl (.iN sl28 rfl rfl (hr := (by first | exact rdp | exact .arg (hNi _ (by omega))))) trivial rfl ?_ | refine HeldK.first 4 (fuel := 8) (listed' := (lb 13 31)) _ rfl krf krf rfl (.iK sl28 rfl rfl (hr := (by first | exact rdp | exact .arg (hNi _ (by omega))))) trivial rfl ?_
       refine HeldK.first 5 (fuel := 7) (listed' := (lb 13 63)) _ rfl krf krf rfl (Yl.loadI on3 rfl (by first | exact rdp | exact .arg (hNi _ (by omega))) (by omega)) trivial rfl ?_
       first | refine HeldK.first 6 (fuel := 6) (listed' := (lb 13 127)) _ rfl krf krf rfl (.iN sl23 rfl rfl (hr := (by first | exact rdp | exact .arg (hNi _ (by omega))))) trivial rfl ?_ | refine HeldK.first 6 (fuel := 6) (listed' := (lb 13 127)) _ rfl krf krf rfl (.iK sl23 rfl rfl (hr := (by first | exact rdp | exact .arg (hNi _ (by omega))))) trivial rfl ?_
       refine HeldK.first 7 (fuel := 5) (listed' := (lb 13 255)) _ rfl krf krf rfl (Yl.loadV on28 rfl (by first | exact rdp | exact .arg (hNi _ (by omega))) (by omega)) trivial rfl ?_
       refine HeldK.first 8 (fuel := 4) (listed' := (lb 13 511)) _ rfl krf krf rfl (Yl.move rfl) trivial rfl ?_
       first | refine HeldK.first 9 (fuel := 3) (listed' := (lb 13 1023)) _ rfl krf krf rfl (.iN sl28 rfl rfl (hr := (by first | exact rdp | exact .arg (hNi _ (by omega))))) trivial rfl ?_ | refine HeldK.first 9 (fuel := 3) (listed' := (lb 13 1023)) _ rfl krf krf rfl (.iK sl28 rfl rfl (hr := (by first | exact rdp | exact .arg (hNi _ (by omega))))) trivial rfl ?_
       refine HeldK.first 10 (fuel := 2) (listed' := (lb 13 2047)) _ rfl krf krf rfl (Yl.loadI on3 rfl (by first | exact rdp | exact .arg (hNi _ (by omega))) (by omega)) trivial rfl ?_
       refine HeldK.one 11 (fuel := 1) (listed' := (lb 13 4095)) krf rfl krf ?_
       refine AK.alloc el3 rfl rfl trivial rfl (fun bx14 => ?_)
       refine .nil ?_
       try (conv => enter [2, 2]; simp only [nrm])
       refine HeldK.back Go.Sx.hle ?_
       refine HeldK.one 12 (fuel := 0) (listed' := (lb 13 8191)) krf rfl krf ?_
       refine AK.storeBox 3 (us := [.int .i64 ((d.nx.getD ((fstI cs (q + 1)).getD (cs.getD q 0).toNat 0).toNat []).getD x 0)]) (cs' := [.int .i64 ((d.nx.getD ((fstI cs (q + 1)).getD (cs.getD q 0).toNat 0).toNat []).getD x 0)]) rfl sz3 rfl rfl rfl rfl oneP (leb rfl) rfl trivial ?_
       refine .nil ?_
       try (conv => enter [2, 2]; simp only [nrm])
       refine HeldK.backN 13 krf rfl krf ?_
       refine .nil ?_
       refine AK.fromQn ?_
       exact hJ _ _ (bx14) trivial (slr) (fun w hw => by first | exact hw.pickLe [0, 1, 2, 3] (by decide) pkl)
      ·skip
       refine AK.then_ (hK28 _ ?_)
       refine .seq fun _ hK29 => ?_
       refine AK.quiet mixed krf ?_
       refine .mv rfl ?_
       refine .v (.loadBox on3 rfl bsp rfl) ?_
       first | refine .v (.iN sl28 rfl rfl (hr := (by first | exact rdp | exact .arg (hNi _ (by omega))))) ?_ | refine .v (.iK sl28 rfl rfl (hr := (by first | exact rdp | exact .arg (hNi _ (by omega))))) ?_
       refine .v (.loadI on3 rfl (by first | exact rdp | exact .arg (hNi _ (by omega))) (by omega)) ?_
       refine .mv rfl ?_
       refine .v (.loadBox on3 rfl bsp rfl) ?_
       first | refine .v (.iN sl28 rfl rfl (hr := (by first | exact rdp | exact .arg (hNi _ (by omega))))) ?_ | refine .v (.iK sl28 rfl rfl (hr := (by first | exact rdp | exact .arg (hNi _ (by omega))))) ?_
       refine .v (.loadI on3 rfl (by first | exact rdp | exact .arg (hNi _ (by omega))) (by omega)) ?_
       refine .v (.neq rfl rfl) ?_
       refine QK.nil (QK.fin ?_)
       refine AK.then_ (hK29 _ ?_)
       refine AK.condNe rfl (fun hc3 => ?_) (fun hc3 => ?_)
       ·refine .sr fun _ hK30 => ?_
        refine .mv rfl ?_
        refine .v (.makeFunc (first := []) (captured := [.tmp 13, .tmp 14]) rfl rfl) ?_
        refine AK.call co71 rfl (fun w hw => s_idx w va rows (ha.at hw) 72 [.pointer (some ⟨bx13, 0, none⟩), .pointer (some ⟨bn, 0, none⟩)] (fun l => l.getD ((d.nx.getD q []).getD x 0).toNat false != l.getD ((d.nx.getD ((fstI cs (q + 1)).getD (cs.getD q 0).toNat 0).toNat []).getD x 0).toNat false) co72 (fun w' hfr v l hm h => s_finer1 w' v l h bx13 bn _ _ ((BxA.own 2 hw rfl).fr hfr) ((BxA.own 3 hw rfl).fr hfr) (by rw [hrw0 l hm]; omega) (by rw [hrw0 l hm]; omega))) trivial rfl ?_
        rintro r o ⟨z2, rfl, hz2, rfl⟩
        refine .as rfl (.nt hK30 ?_)
        refine .sr fun _ hK31 => ?_
        refine .mv rfl (.mv rfl (.as rfl (.as rfl (.as rfl (.nt hK31 (.ret (.block_ret (.then_ret (.then_ret (.block_ret (.block_ret ?_)))))))))))
        refine .then_ret (.then_ret (.block_ret (.then_ret ?_)))
        refine AK.retG [.tmp 6, .tmp 7, .tmp 8] rfl (.cons (.tmp rfl) (.cons (.tmp rfl) (.cons (.tmp rfl) (.nil)))) (fun w hw => ⟨_, _, ?_, rfl, Ret.of (hw.pick [] (by decide) rfl rfl)⟩)
        refine ⟨_, _, _, rfl, ⟨fun h => (by cases h), fun _ => ⟨(q : Int), ((fstI cs (q + 1)).getD (cs.getD q 0).toNat 0), x, rfl, by omega, ⟨by omega, by omega⟩, ⟨by omega, by omega⟩, ?_, hc3, ?_⟩⟩, rfl⟩
        ·exact hself
        ·rcases hz2 with ⟨k, e, hk, hg⟩ | ⟨e, hg⟩
         ·exact .inl ⟨k, e, hk, bne_iff_ne.1 hg⟩
         ·exact .inr ⟨e, fun k hk => bne_eq_false_iff_eq.1 (hg k hk)⟩
       ·have hst : cs.getD (stepQ d ((q : Nat) : Int) x).toNat 0 = cs.getD (stepQ d ((fstI cs (q + 1)).getD (cs.getD q 0).toNat 0) x).toNat 0 := hc3
        refine .skip (.block_normal ?_)
        refine AK.then_ (hK26 _ ?_)
        refine AK.region ?_
        refine .v (.add rfl rfl (by omega)) ?_
        refine .mv rfl (.nil ?_)
        refine AK.then_ (hK23 _ _ (x + 1) ⟨by omega, all_succ hg1.2 hst⟩ (by omega) (slr) (fun w hw => hw.pick [0, 1] (by decide) rfl rfl))
     ·refine .exit (.then_exit (.then_exit (.block_exit (.block_normal ?_))))
      refine AK.then_ (hK8 _ ?_)
      refine AK.region ?_
      refine .v (.add rfl rfl (by omega)) ?_
      refine .mv rfl (.nil ?_)
      refine AK.then_ (hK5 _ _ ((z, q + 1)) ⟨by dsimp only; omega, hz, fin_next hcan (by omega) hg0.2.2 (fun x hx => hg1.2 x (by omega))⟩ (by dsimp only; omega) (slr) (fun w hw => hw))
  ·refine .exit (.then_exit (.then_exit (.block_exit ?_)))
   refine AK.then_ (hK3 _ ?_)
   refine .sr fun _ hK32 => ?_
   refine .as rfl (.as rfl (.as rfl (.nt hK32 (.ret ?_))))
   refine AK.retG [.tmp 6, .tmp 7, .tmp 8] rfl (.cons (.tmp rfl) (.cons (.tmp rfl) (.cons (.tmp rfl) (.nil)))) (fun w hw => ⟨_, _, ?_, rfl, Ret.of (hw.pick [] (by decide) rfl rfl)⟩)
   refine ⟨_, _, _, rfl, ⟨fun _ p q x hp hq hx he => ?_, fun h => (by cases h)⟩, rfl⟩
   have hp1 := hp.1
   have hp2 := hp.2
   have hq1 := hq.1
   have hq2 := hq.2
   have h1 := hg0.2.2 p.toNat (by omega) x hx
   have h2 := hg0.2.2 q.toNat (by omega) x hx
   rw [show ((p.toNat : Nat) : Int) = p by omega] at h1
   rw [show ((q.toNat : Nat) : Int) = q by omega] at h2
   rw [h1, h2, he]

end Go.Proofs.YtafldkjdeompjaaGreatDoor

namespace Go.Proofs.YtafldkjdeompjaaGreatDoor
open Go.Sx Go.RowKit
theorem hd_app {α : Type} (a : α) (l : List α) (d : α) : (a :: l).take l.length ++ [(a :: l).getD l.length d] = a :: l := by
  have h := take_snocD d (a :: l) l.length (by simp)
  rw [← h, List.take_of_length_le (by simp)]
theorem hd_next {α : Type} (a : α) (l : List α) (x : α) : (a :: (l ++ [x])).take (l ++ [x]).length = a :: l := by simp
theorem hd_nextT {α : Type} (a : α) (l : List α) (x d : α) : (a :: (l ++ [x])).getD (l ++ [x]).length d = x := by simp [List.getD_eq_getElem?_getD]
theorem hd_len {α : Type} (a : α) (l : List α) : ((a :: l).take l.length).length = l.length := by simp
theorem rowT_nil {d : Dfa} : rowT d [] = d.fin := by
  apply List.ext_getElem
  · simp [rowT]
  · intro i h1 h2
    simp [rowT, finQ, runI, List.getD_eq_getElem?_getD, h2]
theorem rows_at {d : Dfa} {l : List (List UInt8)} {i : Nat} (h : i < l.length + 1) : (d.fin :: l.map (rowT d)).getD i [] = rowT d (([] :: l).getD i []) := by
  rw [← rowT_nil, ← List.map_cons]
  simp only [List.getD_eq_getElem?_getD, List.getElem?_map]
  rw [List.getElem?_eq_getElem (show i < (([] : List UInt8) :: l).length by simpa using h)]
  rfl
theorem rowT_cons {d : Dfa} (hv : VD d) {q y : Nat} (hq : q < d.fin.length) (hy : (y : Int) < d.L) (w : List UInt8) : (rowT d (ltr y :: w)).getD q false = (rowT d w).getD ((d.nx.getD q []).getD y 0).toNat false := by
  have hL := hv.L
  have hi : InR d (q : Int) := ⟨by omega, by omega⟩
  have h1 := rowT_get (w := ltr y :: w) hi
  have h2 := rowT_get (w := w) (stepQ_inr hv hi hy)
  rw [Int.toNat_natCast] at h1
  rw [h1, runI_cons, ltr_num (by omega), ← h2]
  rfl
theorem fine_tests {d : Dfa} (hv : VD d) (hr : RedS d) {ll : List (List UInt8)} {cs : List Int} (h : TInv d (([] :: ll).take ll.length) (([] :: ll).getD ll.length []) cs) (hn : 1 < d.fin.length) {x z : Int} {ok : Bool}
    (hf : FineR d (spl cs (rowT d (([] :: ll).getD ll.length []))) (d.fin :: ll.map (rowT d)) x z ok) : (ok = false → TestsOK d ([] :: ll)) ∧
    (ok = true → ∃ y k : Nat, x = (y : Int) ∧ (y : Int) < d.L ∧ z = (k : Int) ∧ k < ll.length + 1 ∧ TInv d ([] :: ll) (ltr y :: ([] :: ll).getD k []) (spl cs (rowT d (([] :: ll).getD ll.length [])))) := by
  have e := hd_app ([] : List UInt8) ll []
  have hs := (h.split hn).1
  rw [e] at hs
  constructor
  · intro ho
    have := h.done1 hv hr hn (fun p q x hp hq hx he => hf.1 ho p q x hp hq hx he)
    rw [e] at this
    exact this
  · intro ho
    obtain ⟨p, q, y, e1, hy, hp, hq, hc, hne, hz⟩ := hf.2 ho
    have hpi := stepQ_inr hv hp hy
    have hqi := stepQ_inr hv hq hy
    rcases hz with ⟨k, e2, hk, hk2⟩ | ⟨_, hall⟩
    · have hk' : k < ll.length + 1 := by simpa using hk
      refine ⟨y, k, e1, hy, e2, hk', ?_⟩
      rw [rows_at hk', rowT_get hpi, rowT_get hqi] at hk2
      have := h.next hv hn hy (k := k) (by rw [e]; exact hk') hp hq hc (by rw [e]; exact hk2)
      rw [e] at this
      exact this
    · exfalso
      apply hne
      refine (hs.ker _ _ hpi hqi).2 (fun w hw => ?_)
      obtain ⟨i, hi, ei⟩ := mem_getD [] hw
      have hi' : i < ll.length + 1 := by simpa using hi
      have := hall i (by simpa using hi')
      rw [rows_at hi', rowT_get hpi, rowT_get hqi, ei] at this
      exact this
theorem wordsE (ll : List (List UInt8)) : (([] :: ll).take ll.length).map sv ++ (sv (([] :: ll).getD ll.length [])).cells.toList = ([] :: ll).map sv := by
  have e : (sv (([] :: ll).getD ll.length [])).cells.toList = [([] :: ll).getD ll.length []].map sv := by simp [Value.cells, sv]
  rw [e, ← List.map_append, hd_app]
theorem valsE {vF : Value} {rs : List Value} {n : Nat} (hl : rs.length = n) (hs : IsSl ((vF :: rs).getD n undef)) : (vF :: rs).take n ++ ((vF :: rs).getD n undef).cells.toList = vF :: rs := by
  subst hl
  rw [hs.cells]
  exact hd_app vF rs undef
theorem rdRow {C : Cx} {own : List Asn} {w : World} {vF : Value} {fin : List Bool} {rs : List Value} {xss : List (List Bool)} {E : TypeId} (j : Nat) (hw : HW C own w) (hF : RdL C.S Value.bool C.W0 vF fin) (hj : own[j]? = some (bigA (matG Value.bool E rs xss))) (hl : rs.length = xss.length) : ∀ i, i < xss.length + 1 → RdL (fun _ => False) Value.bool w ((vF :: rs).getD i undef) ((fin :: xss).getD i [])
  | 0, _ => hF.at hw
  | i + 1, hi => RdL.big (v := undef) j i hw hj hl (by omega)
theorem rdRows {C : Cx} {own : List Asn} {w : World} {v vF : Value} {fin : List Bool} {rs : List Value} {xss : List (List Bool)} {E E' : TypeId} {n : Nat} (i j : Nat) (hw : HW C own w) (hF : RdL C.S Value.bool C.W0 vF fin) (hn : n = xss.length + 1) (hi : own[i]? = some (row v E' 1 n (vF :: rs))) (hj : own[j]? = some (bigA (matG Value.bool E rs xss))) (hl : rs.length = xss.length) : RdLL (fun _ => False) Value.bool w v (fin :: xss) := by
  subst hn
  exact ⟨vF :: rs, by simp [hl], (RdS.own (C := C) i hi w hw).mono fun b _ _ => ⟨id, rfl⟩, fun k hk => rdRow j hw hF hj hl k (by simpa using hk)⟩
set_option maxHeartbeats 2000000 in
theorem s_tests (w : World) (v : Value) (d : Dfa) (h : RdD (fun _ => False) w v d) (hv : VD d) (hr : RedS d) : CallS Tryz.prog 20 [v] w (fun r o => ∃ ts, IsSl r ∧ o = [row r 9 1 ts.length (ts.map sv)] ∧ TestsOK d ts) := by
 have h0 := h
 obtain ⟨vF, vN, rfl, hF, hN⟩ := h
 have hF0 := hF
 have hN0 := hN
 obtain ⟨rs, hrl, hNr, hNi⟩ := hN
 have sF := hF.sl
 have sN := hNr.sl
 have hmf := hF.le
 have hmn := hNr.le
 unfold RdL at hF
 have hdL := hv.L
 have hdnx := hv.nx
 have hdn := hv.n
 refine spec_of Tryz.func20 rfl (leb rfl) ?_
 refine .sr fun _ hK1 => ?_
 refine AK.box_ (E := 25) (cs := [.int .i64 d.L, .int .i64 d.s, vF, vN]) rfl rfl rfl trivial rfl (fun bx1 => ?_)
 refine .as rfl (.nt hK1 ?_)
 refine .sr fun _ hK2 => ?_
 refine .as rfl (.nt hK2 ?_)
 refine .sr fun _ hK3 => ?_
 refine .as rfl (.nt hK3 ?_)
 refine .sr fun _ hK4 => ?_
 refine .v (.fieldAddr fd25_2 rfl) ?_
 refine .v (.loadBox on22 rfl bsp rfl) ?_
 refine .v (.lenR sl22 rfl (by first | exact rdp | exact .arg (hNi _ (by omega)) | exact rd_al2 4 hF rfl (by rw [List.length_map]; exact hrl2) (by rw [List.length_map]; omega) hrk (rowT_len _ _))) ?_
 refine AK.make1 (n := d.fin.length) sl28 el3 rfl rfl rfl (by omega) (by omega) trivial rfl (fun mv0 => ?_)
 refine AK.shape 1 rfl (fun smv0 => ?_)
 refine .as rfl (.nt hK4 ?_)
 refine .seq fun _ hK5 => ?_
 refine AK.quiet mixed krf ?_
 refine .v (.fieldAddr fd25_2 rfl) ?_
 refine .v (.loadBox on22 rfl bsp rfl) ?_
 refine .as rfl (.as rfl ?_)
 refine QK.nil (QK.fin ?_)
 refine AK.then_ (hK5 _ ?_)
 refine .seq fun _ hK6 => ?_
 refine .block ?_
 refine AK.loopK (X := Value × Value × Value × List Value × List (List UInt8) × List Int) [(1, _)] (fun x => [(3, x.1), (4, x.2.1), (5, x.2.2.1), (6, sv (([] :: x.2.2.2.2.1).getD x.2.2.2.2.1.length [])), (7, ((vF :: x.2.2.2.1).getD x.2.2.2.2.1.length undef))]) (fun x => [box bx1 25 4 [.int .i64 d.L, .int .i64 d.s, vF, vN], row x.1 9 1 x.2.2.2.2.1.length ((([] :: x.2.2.2.2.1).take x.2.2.2.2.1.length).map sv), row x.2.1 22 1 x.2.2.2.2.1.length ((vF :: x.2.2.2.1).take x.2.2.2.2.1.length), row x.2.2.1 3 1 x.2.2.2.2.2.length (x.2.2.2.2.2.map (Value.int .i64)), bigA (matG Value.bool 4 x.2.2.2.1 (x.2.2.2.2.1.map (rowT d)))]) (fun x => TInv d (([] :: x.2.2.2.2.1).take x.2.2.2.2.1.length) (([] :: x.2.2.2.2.1).getD x.2.2.2.2.1.length []) x.2.2.2.2.2 ∧ x.2.2.2.1.length = x.2.2.2.2.1.length ∧ IsSl x.1 ∧ IsSl x.2.1 ∧ IsSl x.2.2.1 ∧ IsSl ((vF :: x.2.2.2.1).getD x.2.2.2.2.1.length undef)) (fun x => d.fin.length - x.2.2.2.2.1.length) ((.slice none 0 0, .slice none 0 0, mv0, [], [], List.replicate d.fin.length 0)) slr ?_ ?_ ?_ ?_
 ·exact ⟨TInv.zero hv hr, rfl, nilSl, nilSl, smv0, sF⟩
 ·exact slr
 ·exact fun w hw => by have h1 := (((hw.ghost 9 1).ghost 22 1).ghostG (f := Value.bool) 4).pick [0, 2, 3, 1, 4] (by decide) rfl rfl; dsimp only; rw [List.length_replicate, List.map_replicate]; exact h1
 ·intro x hg0 _ hK7
  obtain ⟨wv, av, cv, rs, ll, cs⟩ := x
  dsimp only at *
  obtain ⟨htv, hrl2, swv, sav, scv, hsr⟩ := hg0
  have hcl := htv.ker.len
  have hwl := hd_len ([] : List UInt8) ll
  have hcn := htv.cnt
  have hce := cnt_le htv.ker
  have hlb : ll.length + 1 ≤ d.fin.length := by omega
  have hvl : ((vF :: rs).take ll.length).length = ll.length := by rw [← hrl2]; exact hd_len vF rs
  refine .seq fun _ hK8 => ?_
  refine .sr fun _ hK9 => ?_
  refine .mv rfl ?_
  refine .v (.lenR sl29 rfl (by first | exact rdp | exact .arg (hNi _ (by omega)) | exact rd_al2 4 hF rfl (by rw [List.length_map]; exact hrl2) (by rw [List.length_map]; omega) hrk (rowT_len _ _))) ?_
  refine .v (.add rfl rfl (by omega)) ?_
  refine .v (.fieldAddr fd25_2 rfl) ?_
  refine .v (.loadBox on22 rfl bsp rfl) ?_
  refine .v (.lenR sl22 rfl (by first | exact rdp | exact .arg (hNi _ (by omega)) | exact rd_al2 4 hF rfl (by rw [List.length_map]; exact hrl2) (by rw [List.length_map]; omega) hrk (rowT_len _ _))) ?_
  refine .v (.lss rfl rfl) ?_
  refine .nt hK9 ?_
  refine AK.condD rfl (fun hc0 => ?_) (fun hc0 => ?_)
  ·have hn1 : 1 < d.fin.length := by omega
   have hrow := rows_at (d := d) (l := ll) (i := ll.length) (by omega)
   have hspl : (spl cs (rowT d (([] :: ll).getD ll.length []))).length = cs.length := by rw [spl, canN_len, List.length_zip, rowT_len, hcl, Nat.min_self]
   have htok := htv.tok
   have hrw0 : ∀ l ∈ d.fin :: ll.map (rowT d), l.length = d.fin.length := fun l hl => by rcases List.mem_cons.1 hl with rfl | hl; rfl; obtain ⟨a, _, rfl⟩ := List.mem_map.1 hl; exact rowT_len _ _
   refine .skip ?_
   refine AK.then_ (hK8 _ ?_)
   refine .block ?_
   refine .sr fun _ hK10 => ?_
   refine .mv rfl (.mv rfl ?_)
   refine AK.append1 1 rfl sl29 el9 rfl (by decide) rfl (by intro k hk; cases hk; rfl) rfl (by intro u hu; simp [Value.cells, sv] at hu; subst hu; rfl) (by omega) (by omega) (by decide) rfl rfl (fun wv2 _ hwv2 => ?_)
   refine .mv rfl (.mv rfl ?_)
   refine AK.append1 2 rfl sl85 el22 rfl (by decide) rfl (by intro k hk; cases hk; rfl) (by rw [hsr.cells]; rfl) (by rw [hsr.cells]; exact one'_cons hsr.one one'_nil) (by omega) (by omega) (by decide) rfl rfl (fun av2 _ hav2 => ?_)
   refine .as rfl (.as rfl (.nt hK10 ?_))
   refine .sr fun _ hK11 => ?_
   refine .mv rfl (.mv rfl ?_)
   refine AK.own' [box bx1 25 4 [.int .i64 d.L, .int .i64 d.s, vF, vN], row wv2 9 1 (ll.length + 1) (([] :: ll).map sv), row av2 22 1 (ll.length + 1) (vF :: rs), row cv 3 1 cs.length (cs.map (Value.int .i64)), bigA (matG Value.bool 4 rs (ll.map (rowT d)))] (fun w hw => by rw [wordsE, valsE hrl2 hsr] at hw; exact hw) ?_
   refine AK.call co48 rfl (fun w hw => s_split w _ _ cs (rowT d (([] :: ll).getD ll.length [])) (RdL.own 3 hw rfl) (by rw [← hrow]; exact rdRow 4 hw hF0 rfl (by rw [List.length_map]; exact hrl2) ll.length (by rw [List.length_map]; omega)) (by rw [rowT_len]; exact hcl.symm) (by omega)) trivial rfl ?_
   rintro cv2 o ⟨scv2, rfl⟩
   refine .as rfl (.nt hK11 ?_)
   refine .sr fun _ hK12 => ?_
   refine .v (.loadBoxG ag25 rfl bsp rfl rfl) ?_
   refine .mv rfl (.mv rfl ?_)
   refine AK.call co49 rfl (fun w hw => s_finer w _ d (h0.at hw) hv _ (spl cs (rowT d (([] :: ll).getD ll.length []))) (RdL.ownE 5 hw rfl hspl.symm rfl) (hspl.trans hcl) (canN_canN _) _ (d.fin :: ll.map (rowT d)) (rdRows 2 4 hw hF0 (by rw [List.length_map]) rfl rfl (by rw [List.length_map]; exact hrl2)) hrw0) trivial rfl ?_
   rintro r o ⟨fx, fz, fb, rfl, hfine, rfl⟩
   refine .mv rfl ?_
   refine .v (.extract rfl rfl) ?_
   refine .v (.extract rfl rfl) ?_
   refine .v (.extract rfl rfl) ?_
   refine .as rfl (.as rfl (.as rfl (.nt hK12 ?_)))
   refine .seq fun _ hK13 => ?_
   refine .sr fun _ hK14 => ?_
   refine .mv rfl ?_
   refine .v (.not rfl) ?_
   refine .nt hK14 ?_
   refine AK.condB rfl (fun hc1 => ?_) (fun hc1 => ?_)
   ·have hts := (fine_tests hv hr htv hn1 hfine).1 (by simpa using hc1)
    refine .exit (.then_exit (.block_other rfl (.then_exit (.block_exit ?_))))
    refine AK.then_ (hK6 _ ?_)
    refine .sr fun _ hK15 => ?_
    refine .mv rfl (.as rfl (.nt hK15 (.ret ?_)))
    refine AK.ret1 rfl rfl (fun w hw => ⟨_, _, ?_, rfl, Ret.of (hw.pick [1] (by decide) rfl rfl)⟩)
    first | exact ⟨[] :: ll, hwv2, rfl, hts⟩ | exact ⟨(([] :: ll).take ll.length), swv, by rw [hd_len]; rfl, htv.done0 hv (by rw [hd_len]; omega)⟩
   ·obtain ⟨y, k, rfl, hy, rfl, hk, hti⟩ := (fine_tests hv hr htv hn1 hfine).2 (by simpa using hc1)
    have hkl := hti.tok.2
    rw [List.length_cons, List.length_cons] at hkl
    refine .skip ?_
    refine AK.then_ (hK13 _ ?_)
    refine .seq fun _ hK16 => ?_
    refine AK.joinK (X := Value) [(1, _), (3, _), (4, _), (5, _), (8, _), (9, _)] (fun mw => [(6, sv (ltr y :: ([] :: ll).getD k [])), (7, mw)]) (fun mw => [box bx1 25 4 [.int .i64 d.L, .int .i64 d.s, vF, vN], row wv2 9 1 (ll.length + 1) (([] :: ll).map sv), row av2 22 1 (ll.length + 1) (vF :: rs), row cv 3 1 cs.length (cs.map (Value.int .i64)), bigA (matG Value.bool 4 rs (ll.map (rowT d))), row cv2 3 1 cs.length ((spl cs (rowT d (([] :: ll).getD ll.length []))).map (Value.int .i64)), row mw 4 1 d.fin.length (List.replicate d.fin.length (Value.bool false))]) (fun mw => IsSl mw) slr (fun _ hJ => ?_) (fun mw hg => ?_)
    ·try (conv => enter [2, 2]; simp only [nrm])
     refine AK.held 15 mixed ?_
     refine HeldK.first 0 (fuel := 14) (listed' := (lb 15 1)) _ rfl krf krf rfl (Yl.move rfl) trivial rfl ?_
     refine HeldK.first 1 (fuel := 13) (listed' := (lb 15 3)) _ rfl krf krf rfl (Yl.add rfl rfl (by omega)) trivial rfl ?_
     refine HeldK.first 2 (fuel := 12) (listed' := (lb 15 7)) _ rfl krf krf rfl (Yl.convI (by kernel_rfl) un21 rfl (wrap_i32 (by omega))) trivial rfl ?_
     refine HeldK.first 3 (fuel := 11) (listed' := (lb 15 15)) _ rfl krf krf rfl (Yl.runeS (by kernel_rfl) un9 rfl (by omega)) trivial rfl ?_
     refine HeldK.first 4 (fuel := 10) (listed' := (lb 15 31)) _ rfl krf krf rfl (Yl.move rfl) trivial rfl ?_
     refine HeldK.first 5 (fuel := 9) (listed' := (lb 15 63)) _ rfl krf krf rfl (Yl.move rfl) trivial rfl ?_
     first | refine HeldK.first 6 (fuel := 8) (listed' := (lb 15 127)) _ rfl krf krf rfl (.iN sl29 rfl rfl (hr := (by first | exact rdp | exact .arg (hNi _ (by omega)) | exact rd_al2 4 hF rfl (by rw [List.length_map]; exact hrl2) (by rw [List.length_map]; omega) hrk (rowT_len _ _)))) trivial rfl ?_ | refine HeldK.first 6 (fuel := 8) (listed' := (lb 15 127)) _ rfl krf krf rfl (.iK sl29 rfl rfl (hr := (by first | exact rdp | exact .arg (hNi _ (by omega)) | exact rd_al2 4 hF rfl (by rw [List.length_map]; exact hrl2) (by rw [List.length_map]; omega) hrk (rowT_len _ _)))) trivial rfl ?_
     refine HeldK.first 7 (fuel := 7) (listed' := (lb 15 255)) _ rfl krf krf rfl (Yl.loadS on9 rfl (by first | exact rdp | exact .arg (hNi _ (by omega)) | exact rd_al2 4 hF rfl (by rw [List.length_map]; exact hrl2) (by rw [List.length_map]; omega) hrk (rowT_len _ _)) (by omega)) trivial rfl ?_
     refine HeldK.first 8 (fuel := 6) (listed' := (lb 15 511)) _ rfl krf krf rfl (Yl.concat rfl rfl (by simp only [List.length_cons, List.length_nil]; omega)) trivial rfl ?_
     refine HeldK.first 9 (fuel := 5) (listed' := (lb 15 1023)) _ rfl krf krf rfl (Yl.fieldAddr fd25_2 rfl) trivial rfl ?_
     refine HeldK.first 10 (fuel := 4) (listed' := (lb 15 2047)) _ rfl krf krf rfl (Yl.loadBox on22 rfl bsp rfl) trivial rfl ?_
     refine HeldK.first 11 (fuel := 3) (listed' := (lb 15 4095)) _ rfl krf krf rfl (Yl.lenR sl22 rfl (by first | exact rdp | exact .arg (hNi _ (by omega)) | exact rd_al2 4 hF rfl (by rw [List.length_map]; exact hrl2) (by rw [List.length_map]; omega) hrk (rowT_len _ _))) trivial rfl ?_
     refine HeldK.first 13 (fuel := 2) (listed' := (lb 15 12287)) _ rfl krf krf rfl (Yl.assign rfl) trivial rfl ?_
     refine HeldK.one 12 (fuel := 1) (listed' := (lb 15 16383)) krf rfl krf ?_
     refine AK.make1 (n := d.fin.length) sl22 el4 rfl rfl rfl (by omega) (by omega) trivial rfl (fun mv => ?_)
     refine AK.shape 6 rfl (fun smv => ?_)
     refine .nil ?_
     try (conv => enter [2, 2]; simp only [nrm])
     refine HeldK.back Go.Sx.hle ?_
     refine HeldK.first 14 (fuel := 0) (listed' := (lb 15 32767)) _ rfl krf krf rfl (Yl.assign rfl) trivial rfl ?_
     refine HeldK.done krf ?_
     exact hJ _ _ (mv) smv (.cons (show some (sv ([UInt8.ofNat (97 + (y : Int)).toNat] ++ ([] :: ll).getD k [])) = some (sv (ltr y :: ([] :: ll).getD k [])) from by rw [ofNat_ltr (by omega)]; rfl) (slr)) (fun w hw => by first | exact hw.pickLe [0, 1, 2, 3, 4, 5, 6] (by decide) pkl)
    ·skip
     refine AK.then_ (hK16 _ ?_)
     refine .sr fun _ hK17 => ?_
     refine .mv rfl ?_
     refine .v (.lenR sl22 rfl (by first | exact rdp | exact .arg (hNi _ (by omega)) | exact rd_al2 4 hF rfl (by rw [List.length_map]; exact hrl2) (by rw [List.length_map]; omega) hrk (rowT_len _ _))) ?_
     refine .mv rfl (.nt hK17 (.block ?_))
     refine AK.loopK (X := Nat) [(1, _), (3, _), (4, _), (5, _), (6, _), (7, _), (8, _), (9, _), (60, _)] (fun q => [(61, .int .i64 (q : Int))]) (fun q => [box bx1 25 4 [.int .i64 d.L, .int .i64 d.s, vF, vN], row wv2 9 1 (ll.length + 1) (([] :: ll).map sv), row av2 22 1 (ll.length + 1) (vF :: rs), row cv 3 1 cs.length (cs.map (Value.int .i64)), bigA (matG Value.bool 4 rs (ll.map (rowT d))), row cv2 3 1 cs.length ((spl cs (rowT d (([] :: ll).getD ll.length []))).map (Value.int .i64)), row mw 4 1 d.fin.length (((rowT d (ltr y :: ([] :: ll).getD k [])).take q ++ List.replicate (d.fin.length - q) false).map Value.bool)]) (fun q => q ≤ d.fin.length) (fun q => d.fin.length - q) (0) slr ?_ ?_ ?_ ?_
     ·exact Nat.zero_le _
     ·exact slr
     ·exact fun w hw => by have e : (((rowT d (ltr y :: ([] :: ll).getD k [])).take 0 ++ List.replicate (d.fin.length - 0) false).map Value.bool) = List.replicate d.fin.length (Value.bool false) := (by simp); rw [e]; exact hw
     ·intro q hg1 _ hK18
      refine .sr fun _ hK19 => ?_
      refine .v (.lss rfl rfl) ?_
      refine .nt hK19 ?_
      refine .seq fun _ hK20 => ?_
      refine AK.condD rfl (fun hc2 => ?_) (fun hc2 => ?_)
      ·have hvr : (vF :: rs).length = ll.length + 1 := by rw [List.length_cons, hrl2]
       have hrtl := rowT_len d (([] :: ll).getD k [])
       have hrk := rows_at (d := d) (l := ll) (i := k) hk
       have hrwq := hv.row q (by omega)
       have hto := hv.to q y (by omega) (by omega)
       have hnew := rowT_cons hv (q := q) (by omega) hy (([] :: ll).getD k [])
       refine .skip ?_
       refine AK.then_ (hK20 _ ?_)
       refine .seq fun _ hK21 => ?_
       refine .block ?_
       refine .sr fun _ hK22 => ?_
       refine .mv rfl (.as rfl (.nt hK22 ?_))
       refine AK.stillTail 17 mixed krf (fun _ hws => ?_)
       refine .v hws (.move rfl) ?_
       refine .v hws (.move rfl) ?_
       refine .v hws (.move rfl) ?_
       refine .v hws (.move rfl) ?_
       first | refine .v hws (.iN sl85 rfl rfl (hr := (by first | exact rdp | exact .arg (hNi _ (by omega)) | exact rd_al2 4 hF rfl (by rw [List.length_map]; exact hrl2) (by rw [List.length_map]; omega) hrk (rowT_len _ _)))) ?_ | refine .v hws (.iK sl85 rfl rfl (hr := (by first | exact rdp | exact .arg (hNi _ (by omega)) | exact rd_al2 4 hF rfl (by rw [List.length_map]; exact hrl2) (by rw [List.length_map]; omega) hrk (rowT_len _ _)))) ?_
       refine .v hws (.loadV on22 rfl (by first | exact rdp | exact .arg (hNi _ (by omega)) | exact rd_al2 4 hF rfl (by rw [List.length_map]; exact hrl2) (by rw [List.length_map]; omega) hrk (rowT_len _ _)) (by omega)) ?_
       refine .v hws (.fieldAddr fd25_3 rfl) ?_
       refine .v hws (.loadBox on23 rfl bsp rfl) ?_
       refine .v hws (.move rfl) ?_
       first | refine .v hws (.iN sl23 rfl rfl (hr := (by first | exact rdp | exact .arg (hNi _ (by omega)) | exact rd_al2 4 hF rfl (by rw [List.length_map]; exact hrl2) (by rw [List.length_map]; omega) hrk (rowT_len _ _)))) ?_ | refine .v hws (.iK sl23 rfl rfl (hr := (by first | exact rdp | exact .arg (hNi _ (by omega)) | exact rd_al2 4 hF rfl (by rw [List.length_map]; exact hrl2) (by rw [List.length_map]; omega) hrk (rowT_len _ _)))) ?_
       refine .v hws (.loadV on28 rfl (by first | exact rdp | exact .arg (hNi _ (by omega)) | exact rd_al2 4 hF rfl (by rw [List.length_map]; exact hrl2) (by rw [List.length_map]; omega) hrk (rowT_len _ _)) (by omega)) ?_
       refine .v hws (.move rfl) ?_
       first | refine .v hws (.iN sl28 rfl rfl (hr := (by first | exact rdp | exact .arg (hNi _ (by omega)) | exact rd_al2 4 hF rfl (by rw [List.length_map]; exact hrl2) (by rw [List.length_map]; omega) hrk (rowT_len _ _)))) ?_ | refine .v hws (.iK sl28 rfl rfl (hr := (by first | exact rdp | exact .arg (hNi _ (by omega)) | exact rd_al2 4 hF rfl (by rw [List.length_map]; exact hrl2) (by rw [List.length_map]; omega) hrk (rowT_len _ _)))) ?_
       refine .v hws (.loadI on3 rfl (by first | exact rdp | exact .arg (hNi _ (by omega)) | exact rd_al2 4 hF rfl (by rw [List.length_map]; exact hrl2) (by rw [List.length_map]; omega) hrk (rowT_len _ _)) (by omega)) ?_
       first | refine .v hws (.iN sl22 rfl rfl (hr := (by first | exact rdp | exact .arg (hNi _ (by omega)) | exact rd_al2 4 hF rfl (by rw [List.length_map]; exact hrl2) (by rw [List.length_map]; omega) hrk (rowT_len _ _)))) ?_ | refine .v hws (.iK sl22 rfl rfl (hr := (by first | exact rdp | exact .arg (hNi _ (by omega)) | exact rd_al2 4 hF rfl (by rw [List.length_map]; exact hrl2) (by rw [List.length_map]; omega) hrk (rowT_len _ _)))) ?_
       refine .v hws (.loadB on4 rfl (by first | exact rdp | exact .arg (hNi _ (by omega)) | exact rd_al2 4 hF rfl (by rw [List.length_map]; exact hrl2) (by rw [List.length_map]; omega) hrk (rowT_len _ _)) (by omega)) ?_
       first | refine .v hws (.iN sl22 rfl rfl (hr := (by first | exact rdp | exact .arg (hNi _ (by omega)) | exact rd_al2 4 hF rfl (by rw [List.length_map]; exact hrl2) (by rw [List.length_map]; omega) hrk (rowT_len _ _)))) ?_ | refine .v hws (.iK sl22 rfl rfl (hr := (by first | exact rdp | exact .arg (hNi _ (by omega)) | exact rd_al2 4 hF rfl (by rw [List.length_map]; exact hrl2) (by rw [List.length_map]; omega) hrk (rowT_len _ _)))) ?_
       refine SK.nil (SK.fin hws ?_)
       refine AK.store1e 6 rfl sz4 rfl rfl rfl rfl (by omega) (cs' := (((rowT d (ltr y :: ([] :: ll).getD k [])).take (q + 1) ++ List.replicate (d.fin.length - (q + 1)) false).map Value.bool)) (by rw [take_snocD false (rowT d (ltr y :: ([] :: ll).getD k [])) q (by rw [rowT_len]; omega), hnew]; exact fill_set Value.bool _ false _ d.fin.length q (by rw [List.length_take, rowT_len]; omega) (by omega)) trivial ?_
       refine .nil (.block_normal ?_)
       refine AK.then_ (hK21 _ ?_)
       refine AK.region ?_
       refine .v (.add rfl rfl (by omega)) ?_
       refine .mv rfl (.nil ?_)
       refine AK.then_ (hK18 _ _ (q + 1) (by omega) (by omega) (slr) (fun w hw => hw))
      ·refine .exit (.then_exit (.then_exit (.block_exit (.block_normal ?_))))
       refine AK.then_ (hK7 _ _ ((wv2, av2, cv2, rs ++ [mw], ll ++ [(ltr y :: ([] :: ll).getD k [])], (spl cs (rowT d (([] :: ll).getD ll.length []))))) ⟨by dsimp only; rw [hd_next, hd_nextT]; exact hti, by dsimp only; rw [List.length_append, List.length_append, hrl2]; rfl, hwv2, hav2, scv2, by dsimp only; rw [show (ll ++ [(ltr y :: ([] :: ll).getD k [])]).length = (rs ++ [mw]).length by rw [List.length_append, List.length_append, hrl2]; rfl, hd_nextT]; exact hg⟩ (by dsimp only; rw [List.length_append]; simp only [List.length_cons, List.length_nil]; omega) (.cons (rfl) (.cons (rfl) (.cons (rfl) (.cons (by dsimp only; rw [hd_nextT]; rfl) (.cons (by dsimp only; rw [show (ll ++ [(ltr y :: ([] :: ll).getD k [])]).length = (rs ++ [mw]).length by rw [List.length_append, List.length_append, hrl2]; rfl, hd_nextT]; rfl) (slr)))))) (fun w hw => by have e3 : (ll ++ [(ltr y :: ([] :: ll).getD k [])]).map (rowT d) = ll.map (rowT d) ++ [rowT d (ltr y :: ([] :: ll).getD k [])] := (by rw [List.map_append]; rfl); have e4 : (ll ++ [(ltr y :: ([] :: ll).getD k [])]).length = ll.length + 1 := (by rw [List.length_append]; rfl); have e5 : (vF :: (rs ++ [mw])).take (ll ++ [(ltr y :: ([] :: ll).getD k [])]).length = vF :: rs := (by rw [show (ll ++ [(ltr y :: ([] :: ll).getD k [])]).length = (rs ++ [mw]).length by rw [List.length_append, List.length_append, hrl2]; rfl, hd_next]); dsimp only; rw [e5, hd_next, e4, e3, matG_snoc (by rw [List.length_map]; exact hrl2), rowT_len, hspl]; rw [show q = d.fin.length by omega, Nat.sub_self, List.replicate_zero, List.append_nil, List.take_of_length_le (by rw [rowT_len]; exact Nat.le_refl _)] at hw; exact HW.absorb (own := [_, _, _, _, _]) 4 rfl (hw.pick [0, 1, 2, 5, 4, 6] (by decide) rfl rfl)))
  ·refine .exit (.then_exit (.then_exit (.block_exit ?_)))
   refine AK.then_ (hK6 _ ?_)
   refine .sr fun _ hK23 => ?_
   refine .mv rfl (.as rfl (.nt hK23 (.ret ?_)))
   refine AK.ret1 rfl rfl (fun w hw => ⟨_, _, ?_, rfl, Ret.of (hw.pick [1] (by decide) rfl rfl)⟩)
   first | exact ⟨[] :: ll, hwv2, rfl, hts⟩ | exact ⟨(([] :: ll).take ll.length), swv, by rw [hd_len]; rfl, htv.done0 hv (by rw [hd_len]; omega)⟩

end Go.Proofs.YtafldkjdeompjaaGreatDoor

namespace Go.Proofs.YtafldkjdeompjaaGreatDoor
open Go.Sx Go.RowKit
end Go.Proofs.YtafldkjdeompjaaGreatDoor

namespace Go.Proofs.YtafldkjdeompjaaGreatDoor
open Go.Sx Go.RowKit
end Go.Proofs.YtafldkjdeompjaaGreatDoor

namespace Go.Proofs.YtafldkjdeompjaaGreatDoor
open Go.Sx Go.RowKit
theorem acc_next {d : Dfa} (hv : VD d) {i : Nat} (hi : i < (TSt d).length) :
    i < (exI (stepQ d) d.L.toNat d.s 0 i).length ∧ (TrimV d).nx.getD i [] = (List.range d.L.toNat).map (fun x => ((posN (TSt d) (stepQ d ((exI (stepQ d) d.L.toNat d.s 0 i).getD i 0) x) : Nat) : Int)) := by
  obtain ⟨h1, h2, h3⟩ := tst_fix hv
  refine ⟨exI_all h1 i hi, ?_⟩
  have e := (exI_at h1 hi).1
  rw [h2] at e
  rw [show TrimV d = trimD d from if_pos hv]
  unfold trimD
  rw [← e]
  simp [List.getD_eq_getElem?_getD, hi]
theorem acc_new {d : Dfa} (hv : VD d) {i : Nat} (hi : i < (TSt d).length) {j : Nat} (hj : j < d.L.toNat) (q : Int) (eq : q = (exI (stepQ d) d.L.toNat d.s 0 i).getD i 0) (l : List Int) (el : l = exI (stepQ d) d.L.toNat d.s 0 i) (h : posN (TSt d) (stepQ d q j) = (exR (stepQ d) q l j).length) :
    stepQ d q j ∉ exR (stepQ d) q l j ∧ (exR (stepQ d) q l j).length < (TSt d).length := by
  subst eq; subst el
  obtain ⟨h1, h2, h3⟩ := tst_fix hv
  obtain ⟨⟨ys, e⟩, _⟩ := exR_in h1 hi (k := j + 1) (by omega)
  rw [h2] at e
  have hm : stepQ d ((exI (stepQ d) d.L.toNat d.s 0 i).getD i 0) j ∈ exR (stepQ d) ((exI (stepQ d) d.L.toNat d.s 0 i).getD i 0) (exI (stepQ d) d.L.toNat d.s 0 i) (j + 1) := insN_mem _ _
  have hm2 : stepQ d ((exI (stepQ d) d.L.toNat d.s 0 i).getD i 0) j ∈ TSt d := by rw [e]; exact List.mem_append_left _ hm
  refine ⟨fun hin => ?_, by rw [← h]; exact posN_lt hm2⟩
  obtain ⟨⟨zs, e2⟩, _⟩ := exR_in h1 hi (k := j) (by omega)
  rw [h2] at e2
  rw [e2, posN_append _ hin] at h
  have := posN_lt hin; omega
theorem acc_old {d : Dfa} (hv : VD d) {i : Nat} (hi : i < (TSt d).length) {j : Nat} (hj : j < d.L.toNat) (q : Int) (eq : q = (exI (stepQ d) d.L.toNat d.s 0 i).getD i 0) (l : List Int) (el : l = exI (stepQ d) d.L.toNat d.s 0 i) (h : ¬ posN (TSt d) (stepQ d q j) = (exR (stepQ d) q l j).length) :
    stepQ d q j ∈ exR (stepQ d) q l j := by
  subst eq; subst el
  obtain ⟨h1, h2, h3⟩ := tst_fix hv
  obtain ⟨⟨ys, e⟩, _⟩ := exR_in h1 hi (k := j + 1) (by omega)
  rw [h2] at e
  have hm : stepQ d ((exI (stepQ d) d.L.toNat d.s 0 i).getD i 0) j ∈ exR (stepQ d) ((exI (stepQ d) d.L.toNat d.s 0 i).getD i 0) (exI (stepQ d) d.L.toNat d.s 0 i) (j + 1) := insN_mem _ _
  by_cases hin : stepQ d ((exI (stepQ d) d.L.toNat d.s 0 i).getD i 0) j ∈ exR (stepQ d) ((exI (stepQ d) d.L.toNat d.s 0 i).getD i 0) (exI (stepQ d) d.L.toNat d.s 0 i) j
  · exact hin
  · refine absurd ?_ h
    rw [e, posN_append _ hm, show exR (stepQ d) ((exI (stepQ d) d.L.toNat d.s 0 i).getD i 0) (exI (stepQ d) d.L.toNat d.s 0 i) (j + 1) = exR (stepQ d) ((exI (stepQ d) d.L.toNat d.s 0 i).getD i 0) (exI (stepQ d) d.L.toNat d.s 0 i) j ++ [stepQ d ((exI (stepQ d) d.L.toNat d.s 0 i).getD i 0) j] from if_neg hin]
    have : ∀ (xs : List Int) (y : Int), y ∉ xs → posN (xs ++ [y]) y = xs.length := fun xs y hy => by
      induction xs with
      | nil => simp [posN]
      | cons b xs ih =>
        simp only [List.mem_cons, not_or] at hy
        simp only [List.cons_append, posN, if_neg hy.1, ih hy.2, List.length_cons]
    exact this _ _ hin
theorem trimV_le (d : Dfa) : (TrimV d).fin.length ≤ 512 ∧ (TrimV d).nx.length = (TrimV d).fin.length := by
  unfold TrimV
  split
  · rename_i hv
    have := (TSt_ok hv).2.2.1
    have := hv.n
    simp [trimD]; omega
  · exact ⟨by decide, rfl⟩
set_option maxHeartbeats 1000000 in
theorem s_access (w : World) (v : Value) (d : Dfa) (h : RdD (fun _ => False) w v d) : CallS Tryz.prog 19 [v] w (fun r o => IsSl r ∧ o = [row r 9 1 (AccW d).length ((AccW d).map sv)]) := by
 have h0 := h
 obtain ⟨vF, vN, rfl, hF, hN⟩ := h
 have hF0 := hF
 have hN0 := hN
 obtain ⟨rs, hrl, hNr, hNi⟩ := hN
 have sF := hF.sl
 have sN := hNr.sl
 have hmf := hF.le
 have hmn := hNr.le
 unfold RdL at hF
 obtain ⟨htl5, htnf⟩ := trimV_le d
 refine spec_of Tryz.func19 rfl (leb rfl) ?_
 refine .sr fun _ hK1 => ?_
 refine AK.box_ (E := 25) (cs := [.int .i64 d.L, .int .i64 d.s, vF, vN]) rfl rfl rfl trivial rfl (fun bx1 => ?_)
 refine .as rfl (.nt hK1 ?_)
 refine .sr fun _ hK2 => ?_
 refine .v (.loadBoxG ag25 rfl bsp rfl rfl) ?_
 refine AK.call co7 rfl (fun w hw => s_trim w _ d (h0.at hw)) trivial rfl ?_
 rintro r o ⟨tF, tN, tM, trs, rfl, htrs, stF, stN, stM, rfl⟩
 refine .mv rfl ?_
 refine .v (.extract rfl rfl) ?_
 refine .v (.extract rfl rfl) ?_
 refine AK.alloc el25 rfl rfl trivial rfl (fun bx3 => ?_)
 refine AK.storeBox 5 (us := [.int .i64 (TrimV d).L, .int .i64 (TrimV d).s, tF, tN]) (cs' := [.int .i64 (TrimV d).L, .int .i64 (TrimV d).s, tF, tN]) rfl sz25 rfl rfl rfl rfl oneP (leb rfl) rfl trivial ?_
 refine .as rfl (.nt hK2 ?_)
 refine .sr fun _ hK3 => ?_
 refine .v (.fieldAddr fd25_2 rfl) ?_
 refine .v (.loadBox on22 rfl bsp rfl) ?_
 refine .v (.lenR sl22 rfl (by first | exact rdp | exact (RdS.big 3 _ rfl (matG_get htrs (by omega))))) ?_
 refine AK.make1 (n := (TrimV d).fin.length) sl29 el9 rfl rfl rfl (by omega) (by omega) trivial rfl (fun lv => ?_)
 refine AK.shape 6 rfl (fun slv => ?_)
 refine AK.lenBd 1 rfl (fun hml => ?_)
 refine AK.lenBd 2 rfl (fun hmn => ?_)
 refine .as rfl (.nt hK3 ?_)
 refine .sr fun _ hK4 => ?_
 refine .as rfl (.nt hK4 ?_)
 refine .seq fun _ hK5 => ?_
 refine .sr fun _ hK6 => ?_
 refine .v (.fieldAddr fd25_3 rfl) ?_
 refine .v (.loadBox on23 rfl bsp rfl) ?_
 refine .v (.lenR sl23 rfl (by first | exact rdp | exact (RdS.big 3 _ rfl (matG_get htrs (by omega))))) ?_
 refine .mv rfl (.nt hK6 (.block ?_))
 refine AK.loopK (X := Nat) [(5, _), (21, _), (22, _)] (fun x => [(6, .int .i64 ((exI (stepQ d) d.L.toNat d.s 0 x).length : Int)), (23, .int .i64 (x : Int))]) (fun x => ([box bx1 25 4 [.int .i64 d.L, .int .i64 d.s, vF, vN]] ++ dfaO 4 3 28 tF tN trs (TrimV d) ++ [row tM 3 1 (NumV d).length ((NumV d).map (Value.int .i64)), box bx3 25 4 [.int .i64 (TrimV d).L, .int .i64 (TrimV d).s, tF, tN]] ++ [row lv 9 1 (TrimV d).fin.length ((AW d (exIw (stepQ d) d.L.toNat d.s 0 x)).map sv)])) (fun x => x ≤ (TrimV d).nx.length) (fun x => (TrimV d).nx.length - x) (0) slr ?_ ?_ ?_ ?_
 ·exact Nat.zero_le _
 ·exact slr
 ·exact fun w hw => by show HW _ ([box bx1 25 4 [.int .i64 d.L, .int .i64 d.s, vF, vN]] ++ dfaO 4 3 28 tF tN trs (TrimV d) ++ [row tM 3 1 (NumV d).length ((NumV d).map (Value.int .i64)), box bx3 25 4 [.int .i64 (TrimV d).L, .int .i64 (TrimV d).s, tF, tN]] ++ [row lv 9 1 (TrimV d).fin.length ((AW d (exIw (stepQ d) d.L.toNat d.s 0 0)).map sv)]) w; rw [show (exIw (stepQ d) d.L.toNat d.s 0 0) = [[]] from rfl, AW_zero, List.map_replicate]; exact hw
 ·intro x hg0 _ hK7
  refine .sr fun _ hK8 => ?_
  refine .v (.lss rfl rfl) ?_
  refine .nt hK8 ?_
  refine .seq fun _ hK9 => ?_
  refine AK.condD rfl (fun hc0 => ?_) (fun hc0 => ?_)
  ·have hv : VD d := by
    by_cases hv : VD d
    ·exact hv
    ·rw [show TrimV d = nilD from if_neg hv] at hc0; simp [nilD] at hc0; omega
   have hL := hv.L
   have hn5 := hv.n
   have hTn := TSt_ok hv
   have hTl : (TrimV d).nx.length = (TSt d).length ∧ (TrimV d).fin.length = (TSt d).length := by rw [show TrimV d = trimD d from if_pos hv]; simp [trimD]
   have hxm : x < (TSt d).length := by omega
   obtain ⟨hlt, hrow⟩ := acc_next hv hxm
   have hrl : ((TrimV d).nx.getD x []).length = d.L.toNat := by rw [hrow]; simp
   have hwl := exIw_len (f := stepQ d) (L := d.L.toNat) (s := d.s) (z := 0) x
   have hrl2 := fun k => exRw_len (f := stepQ d) (q := ((exI (stepQ d) d.L.toNat d.s 0 x).getD x 0)) (wq := ((exIw (stepQ d) d.L.toNat d.s 0 x).getD x [])) hwl k
   have hww : ∀ i, i < (exIw (stepQ d) d.L.toNat d.s 0 x).length → ((exIw (stepQ d) d.L.toNat d.s 0 x).getD i []).length ≤ 2 * (x + 1) * 8 := fun i hi => exIw_wd x i hi
   have hbd := exI_bd (z := 0) (start_univ hv) (step_univ hv)
   rw [univ_len] at hbd
   have hb0 := hbd x
   have hawl := fun ws h => AW_len hv (ws := ws) h
   refine .skip ?_
   refine AK.then_ (hK9 _ ?_)
   refine .seq fun _ hK10 => ?_
   refine .block ?_
   refine .sr fun _ hK11 => ?_
   refine .mv rfl ?_
   first | refine .v (.iN sl23 rfl rfl (hr := (by first | exact rdp | exact (RdS.big 3 _ rfl (matG_get htrs (by omega)))))) ?_ | refine .v (.iK sl23 rfl rfl (hr := (by first | exact rdp | exact (RdS.big 3 _ rfl (matG_get htrs (by omega)))))) ?_
   refine .v (.loadV on28 rfl (by first | exact rdp | exact (RdS.big 3 _ rfl (matG_get htrs (by omega)))) (by omega)) ?_
   refine .as rfl (.as rfl (.nt hK11 ?_))
   refine .sr fun _ hK12 => ?_
   refine .mv rfl ?_
   refine .v (.lenR sl28 rfl (by first | exact rdp | exact (RdS.big 3 _ rfl (matG_get htrs (by omega))))) ?_
   refine .mv rfl (.nt hK12 (.block ?_))
   refine AK.loopK (X := Nat) [(5, _), (7, _), (21, _), (22, _), (23, _), (28, _), (29, _)] (fun y => [(6, .int .i64 ((exR (stepQ d) ((exI (stepQ d) d.L.toNat d.s 0 x).getD x 0) (exI (stepQ d) d.L.toNat d.s 0 x) y).length : Int)), (30, .int .i64 (y : Int))]) (fun y => ([box bx1 25 4 [.int .i64 d.L, .int .i64 d.s, vF, vN]] ++ dfaO 4 3 28 tF tN trs (TrimV d) ++ [row tM 3 1 (NumV d).length ((NumV d).map (Value.int .i64)), box bx3 25 4 [.int .i64 (TrimV d).L, .int .i64 (TrimV d).s, tF, tN]] ++ [row lv 9 1 (TrimV d).fin.length ((AW d (exRw (stepQ d) ((exI (stepQ d) d.L.toNat d.s 0 x).getD x 0) ((exIw (stepQ d) d.L.toNat d.s 0 x).getD x []) (exI (stepQ d) d.L.toNat d.s 0 x) (exIw (stepQ d) d.L.toNat d.s 0 x) y)).map sv)])) (fun y => y ≤ d.L.toNat) (fun y => d.L.toNat - y) (0) slr ?_ ?_ ?_ ?_
   ·exact Nat.zero_le _
   ·exact slr
   ·exact fun w hw => hw
   ·intro y hg1 _ hK13
    refine .sr fun _ hK14 => ?_
    refine .v (.lss rfl rfl) ?_
    refine .nt hK14 ?_
    refine .seq fun _ hK15 => ?_
    refine AK.condD rfl (fun hc1 => ?_) (fun hc1 => ?_)
    ·have hyL : y < d.L.toNat := by omega
     have hto : (((TrimV d).nx.getD x []).getD y 0) = ((posN (TSt d) (stepQ d ((exI (stepQ d) d.L.toNat d.s 0 x).getD x 0) y) : Nat) : Int) := by rw [hrow]; simp [List.getD_eq_getElem?_getD, hyL]
     have hrp : (exIw (stepQ d) d.L.toNat d.s 0 x).length ≤ (exRw (stepQ d) ((exI (stepQ d) d.L.toNat d.s 0 x).getD x 0) ((exIw (stepQ d) d.L.toNat d.s 0 x).getD x []) (exI (stepQ d) d.L.toNat d.s 0 x) (exIw (stepQ d) d.L.toNat d.s 0 x) y).length := by obtain ⟨ys, e⟩ := exRw_pre (stepQ d) ((exI (stepQ d) d.L.toNat d.s 0 x).getD x 0) ((exIw (stepQ d) d.L.toNat d.s 0 x).getD x []) (exI (stepQ d) d.L.toNat d.s 0 x) (exIw (stepQ d) d.L.toNat d.s 0 x) y; rw [e, List.length_append]; omega
     have hrl3 := hrl2 y
     have hgw : ((exRw (stepQ d) ((exI (stepQ d) d.L.toNat d.s 0 x).getD x 0) ((exIw (stepQ d) d.L.toNat d.s 0 x).getD x []) (exI (stepQ d) d.L.toNat d.s 0 x) (exIw (stepQ d) d.L.toNat d.s 0 x) y).getD x []) = ((exIw (stepQ d) d.L.toNat d.s 0 x).getD x []) := exRw_get _ (by omega)
     have hag : ((AW d (exRw (stepQ d) ((exI (stepQ d) d.L.toNat d.s 0 x).getD x 0) ((exIw (stepQ d) d.L.toNat d.s 0 x).getD x []) (exI (stepQ d) d.L.toNat d.s 0 x) (exIw (stepQ d) d.L.toNat d.s 0 x) y)).getD x []) = ((exIw (stepQ d) d.L.toNat d.s 0 x).getD x []) := (AW_get hv (by omega)).trans hgw
     have hwx := hww x (by omega)
     refine .skip ?_
     refine AK.then_ (hK15 _ ?_)
     refine .seq fun _ hK16 => ?_
     refine .block ?_
     refine .sr fun _ hK17 => ?_
     refine .mv rfl ?_
     first | refine .v (.iN sl28 rfl rfl (hr := (by first | exact rdp | exact (RdS.big 3 _ rfl (matG_get htrs (by omega)))))) ?_ | refine .v (.iK sl28 rfl rfl (hr := (by first | exact rdp | exact (RdS.big 3 _ rfl (matG_get htrs (by omega)))))) ?_
     refine .v (.loadI on3 rfl (by first | exact rdp | exact (RdS.big 3 _ rfl (matG_get htrs (by omega)))) (by omega)) ?_
     refine .as rfl (.as rfl (.nt hK17 ?_))
     refine .sr fun _ hK18 => ?_
     refine .mv rfl (.mv rfl ?_)
     refine .v (.eql rfl rfl) ?_
     refine .nt hK18 ?_
     refine AK.condD rfl (fun hc2 => ?_) (fun hc2 => ?_)
     ·rw [hto] at hc2
      have hnw := acc_new hv hxm hyL _ rfl _ rfl (show posN (TSt d) (stepQ d ((exI (stepQ d) d.L.toNat d.s 0 x).getD x 0) y) = (exR (stepQ d) ((exI (stepQ d) d.L.toNat d.s 0 x).getD x 0) (exI (stepQ d) d.L.toNat d.s 0 x) y).length by omega)
      have hal := AW_len hv (ws := (exRw (stepQ d) ((exI (stepQ d) d.L.toNat d.s 0 x).getD x 0) ((exIw (stepQ d) d.L.toNat d.s 0 x).getD x []) (exI (stepQ d) d.L.toNat d.s 0 x) (exIw (stepQ d) d.L.toNat d.s 0 x) y)) (by omega)
      refine .sr fun _ hK19 => ?_
      refine .mv rfl (.mv rfl (.mv rfl (.mv rfl ?_)))
      first | refine .v (.iN sl29 rfl rfl (hr := (by first | exact rdp | exact (RdS.big 3 _ rfl (matG_get htrs (by omega)))))) ?_ | refine .v (.iK sl29 rfl rfl (hr := (by first | exact rdp | exact (RdS.big 3 _ rfl (matG_get htrs (by omega)))))) ?_
      refine .v (.loadS on9 rfl (by first | exact rdp | exact (RdS.big 3 _ rfl (matG_get htrs (by omega)))) (by omega)) ?_
      refine .mv rfl ?_
      refine .v (.add rfl rfl (by omega)) ?_
      refine .v (.convI (by kernel_rfl) un21 rfl (wrap_i32 (by omega))) ?_
      refine .v (.runeS (by kernel_rfl) un9 rfl (by omega)) ?_
      refine .v (.concat rfl rfl (by rw [hag]; simp only [List.length_cons, List.length_nil]; omega)) ?_
      first | refine .v (.iN sl29 rfl rfl (hr := (by first | exact rdp | exact (RdS.big 3 _ rfl (matG_get htrs (by omega)))))) ?_ | refine .v (.iK sl29 rfl rfl (hr := (by first | exact rdp | exact (RdS.big 3 _ rfl (matG_get htrs (by omega)))))) ?_
      refine AK.store1e 6 rfl sz9 rfl rfl rfl rfl (by omega) (cs' := ((AW d ((exRw (stepQ d) ((exI (stepQ d) d.L.toNat d.s 0 x).getD x 0) ((exIw (stepQ d) d.L.toNat d.s 0 x).getD x []) (exI (stepQ d) d.L.toNat d.s 0 x) (exIw (stepQ d) d.L.toNat d.s 0 x) y) ++ [((exIw (stepQ d) d.L.toNat d.s 0 x).getD x []) ++ [ltr y]])).map sv)) (by rw [← AW_set hv (by omega), List.map_set, hag, hto, show ((posN (TSt d) (stepQ d ((exI (stepQ d) d.L.toNat d.s 0 x).getD x 0) y) : Nat) : Int).toNat = (exRw (stepQ d) ((exI (stepQ d) d.L.toNat d.s 0 x).getD x 0) ((exIw (stepQ d) d.L.toNat d.s 0 x).getD x []) (exI (stepQ d) d.L.toNat d.s 0 x) (exIw (stepQ d) d.L.toNat d.s 0 x) y).length by omega]; rfl) trivial ?_
      refine .nt hK19 ?_
      refine AK.region ?_
      refine .mv rfl ?_
      refine .v (.add rfl rfl (by omega)) ?_
      refine .as rfl (.nil (.block_normal ?_))
      refine AK.then_ (hK16 _ ?_)
      refine AK.region ?_
      refine .v (.add rfl rfl (by omega)) ?_
      refine .mv rfl (.nil ?_)
      first | refine AK.then_ (hK13 _ _ (y + 1) (by omega) (by omega) (.cons (congrArg (fun (k : Int) => some (Value.int .i64 k)) (by rw [show (exR (stepQ d) ((exI (stepQ d) d.L.toNat d.s 0 x).getD x 0) (exI (stepQ d) d.L.toNat d.s 0 x) (y + 1)) = (exR (stepQ d) ((exI (stepQ d) d.L.toNat d.s 0 x).getD x 0) (exI (stepQ d) d.L.toNat d.s 0 x) y) ++ [(stepQ d ((exI (stepQ d) d.L.toNat d.s 0 x).getD x 0) y)] from if_neg hnw.1]; simp)) (slr)) (fun w hw => by rw [show (exRw (stepQ d) ((exI (stepQ d) d.L.toNat d.s 0 x).getD x 0) ((exIw (stepQ d) d.L.toNat d.s 0 x).getD x []) (exI (stepQ d) d.L.toNat d.s 0 x) (exIw (stepQ d) d.L.toNat d.s 0 x) (y + 1)) = (exRw (stepQ d) ((exI (stepQ d) d.L.toNat d.s 0 x).getD x 0) ((exIw (stepQ d) d.L.toNat d.s 0 x).getD x []) (exI (stepQ d) d.L.toNat d.s 0 x) (exIw (stepQ d) d.L.toNat d.s 0 x) y) ++ [((exIw (stepQ d) d.L.toNat d.s 0 x).getD x []) ++ [ltr y]] from if_neg hnw.1]; exact hw)) | refine AK.then_ (hK13 _ _ (y + 1) (by omega) (by omega) (.cons (congrArg (fun (k : Nat) => some (Value.int .i64 (k : Int))) (by rw [show (exR (stepQ d) ((exI (stepQ d) d.L.toNat d.s 0 x).getD x 0) (exI (stepQ d) d.L.toNat d.s 0 x) (y + 1)) = (exR (stepQ d) ((exI (stepQ d) d.L.toNat d.s 0 x).getD x 0) (exI (stepQ d) d.L.toNat d.s 0 x) y) from if_pos hod])) (slr)) (fun w hw => by rw [show (exRw (stepQ d) ((exI (stepQ d) d.L.toNat d.s 0 x).getD x 0) ((exIw (stepQ d) d.L.toNat d.s 0 x).getD x []) (exI (stepQ d) d.L.toNat d.s 0 x) (exIw (stepQ d) d.L.toNat d.s 0 x) (y + 1)) = (exRw (stepQ d) ((exI (stepQ d) d.L.toNat d.s 0 x).getD x 0) ((exIw (stepQ d) d.L.toNat d.s 0 x).getD x []) (exI (stepQ d) d.L.toNat d.s 0 x) (exIw (stepQ d) d.L.toNat d.s 0 x) y) from if_pos hod]; exact hw))
     ·rw [hto] at hc2
      have hod := acc_old hv hxm hyL _ rfl _ rfl (show ¬ posN (TSt d) (stepQ d ((exI (stepQ d) d.L.toNat d.s 0 x).getD x 0) y) = (exR (stepQ d) ((exI (stepQ d) d.L.toNat d.s 0 x).getD x 0) (exI (stepQ d) d.L.toNat d.s 0 x) y).length by omega)
      refine .skip (.block_normal ?_)
      refine AK.then_ (hK16 _ ?_)
      refine AK.region ?_
      refine .v (.add rfl rfl (by omega)) ?_
      refine .mv rfl (.nil ?_)
      first | refine AK.then_ (hK13 _ _ (y + 1) (by omega) (by omega) (.cons (congrArg (fun (k : Int) => some (Value.int .i64 k)) (by rw [show (exR (stepQ d) ((exI (stepQ d) d.L.toNat d.s 0 x).getD x 0) (exI (stepQ d) d.L.toNat d.s 0 x) (y + 1)) = (exR (stepQ d) ((exI (stepQ d) d.L.toNat d.s 0 x).getD x 0) (exI (stepQ d) d.L.toNat d.s 0 x) y) ++ [(stepQ d ((exI (stepQ d) d.L.toNat d.s 0 x).getD x 0) y)] from if_neg hnw.1]; simp)) (slr)) (fun w hw => by rw [show (exRw (stepQ d) ((exI (stepQ d) d.L.toNat d.s 0 x).getD x 0) ((exIw (stepQ d) d.L.toNat d.s 0 x).getD x []) (exI (stepQ d) d.L.toNat d.s 0 x) (exIw (stepQ d) d.L.toNat d.s 0 x) (y + 1)) = (exRw (stepQ d) ((exI (stepQ d) d.L.toNat d.s 0 x).getD x 0) ((exIw (stepQ d) d.L.toNat d.s 0 x).getD x []) (exI (stepQ d) d.L.toNat d.s 0 x) (exIw (stepQ d) d.L.toNat d.s 0 x) y) ++ [((exIw (stepQ d) d.L.toNat d.s 0 x).getD x []) ++ [ltr y]] from if_neg hnw.1]; exact hw)) | refine AK.then_ (hK13 _ _ (y + 1) (by omega) (by omega) (.cons (congrArg (fun (k : Nat) => some (Value.int .i64 (k : Int))) (by rw [show (exR (stepQ d) ((exI (stepQ d) d.L.toNat d.s 0 x).getD x 0) (exI (stepQ d) d.L.toNat d.s 0 x) (y + 1)) = (exR (stepQ d) ((exI (stepQ d) d.L.toNat d.s 0 x).getD x 0) (exI (stepQ d) d.L.toNat d.s 0 x) y) from if_pos hod])) (slr)) (fun w hw => by rw [show (exRw (stepQ d) ((exI (stepQ d) d.L.toNat d.s 0 x).getD x 0) ((exIw (stepQ d) d.L.toNat d.s 0 x).getD x []) (exI (stepQ d) d.L.toNat d.s 0 x) (exIw (stepQ d) d.L.toNat d.s 0 x) (y + 1)) = (exRw (stepQ d) ((exI (stepQ d) d.L.toNat d.s 0 x).getD x 0) ((exIw (stepQ d) d.L.toNat d.s 0 x).getD x []) (exI (stepQ d) d.L.toNat d.s 0 x) (exIw (stepQ d) d.L.toNat d.s 0 x) y) from if_pos hod]; exact hw))
    ·refine .exit (.then_exit (.then_exit (.block_exit (.block_normal ?_))))
     refine AK.then_ (hK10 _ ?_)
     refine AK.region ?_
     refine .v (.add rfl rfl (by omega)) ?_
     refine .mv rfl (.nil ?_)
     refine AK.then_ (hK7 _ _ (x + 1) (by omega) (by omega) (.cons (congrArg (fun (k : Nat) => some (Value.int .i64 (k : Int))) (by rw [exI_next hlt, show y = d.L.toNat by omega])) (slr)) (fun w hw => by rw [exIw_next hlt]; rw [show y = d.L.toNat by omega] at hw; exact hw))
  ·refine .exit (.then_exit (.then_exit (.block_exit ?_)))
   refine AK.then_ (hK5 _ ?_)
   refine .sr fun _ hK20 => ?_
   refine .mv rfl (.as rfl (.nt hK20 (.ret ?_)))
   refine AK.ret1 rfl rfl (fun w hw => ⟨_, _, ?_, rfl, Ret.of (hw.pick [6] (by decide) rfl rfl)⟩)
   refine ⟨slv, ?_⟩
   have e : x = (TrimV d).nx.length := (by omega)
   by_cases hv : VD d
   ·obtain ⟨h1, h2, h3⟩ := tst_fix hv
    have hT : TrimV d = trimD d := if_pos hv
    have e2 : x = (TSt d).length := by rw [e, hT]; simp [trimD]
    have e3 : AW d (exIw (stepQ d) d.L.toNat d.s 0 x) = TWo d := by unfold AW; rw [if_pos hv, e2, h3, two_len hv, Nat.sub_self]; simp
    rw [e3, show AccW d = TWo d from if_pos hv, two_len hv, show (TrimV d).fin.length = (TSt d).length by rw [hT]; simp [trimD]]
    try rfl
   ·rw [show AW d (exIw (stepQ d) d.L.toNat d.s 0 x) = [] from if_neg hv, show AccW d = [] from if_neg hv, show TrimV d = nilD from if_neg hv]; rfl

end Go.Proofs.YtafldkjdeompjaaGreatDoor

namespace Go.Proofs.YtafldkjdeompjaaGreatDoor
open Go.Sx Go.RowKit
theorem opvs_evalF {C : Cx} {sl : List (Nat × Value)} {own : List Asn} {a : Act} (h : SimF C sl a) : ∀ {xs : List Operand} {vs : List Value}, opvs ⟨sl, own⟩ xs = some vs → xs.map a.eval = vs
  | [], vs, hx => by simp [opvs] at hx; simp [hx]
  | x :: l, vs, hx => by
    simp only [opvs] at hx
    cases h1 : opv ⟨sl, own⟩ x with
    | none => simp [h1] at hx
    | some v =>
      cases h2 : opvs ⟨sl, own⟩ l with
      | none => simp [h1, h2] at hx
      | some us =>
        simp [h1, h2] at hx
        subst hx
        simp [opv_evalF h h1, opvs_evalF h h2]
/-- a struct put together out of slots, whatever the memory is -/
theorem PY.build {C : Cx} {sl : List (Nat × Value)} {dst : Option Nat} {ty : TypeId} {pos : String} {aft : Array Edge} {g : Option (Nat × Bool)} {t : Nat} {parts : List (Nat × Operand)} {vs : List Value} {cs : Array Value} (hx : opvs ⟨sl, []⟩ (parts.map (·.2)) = some vs) (hb : C.P.built t ((parts.map (·.1)).zip vs) = some cs) :
    PY C sl ⟨dst, .build t parts.toArray, ty, pos, aft, g⟩ (.agg cs) :=
  fun a w hs => by
    have he := opvs_evalF hs hx
    have hp : (parts.toArray.map fun x => (x.1, a.eval x.2)) = ((parts.map (·.1)).zip vs).toArray := by
      rw [← he]; clear hx he hb
      simp
      induction parts with
      | nil => rfl
      | cons p l ih => simp [ih]
    have := run_build (P := C.P) w t ((parts.map (·.1)).zip vs).toArray cs (by simpa using hb)
    have hp' : (parts.toArray.map fun x => match x with | (i, x) => (i, a.eval x)) = ((parts.map (·.1)).zip vs).toArray := hp
    simp only [execOp, hp', Sem.run_bind, this, Result.andThen_ok, Sem.run_pure]
def MapV (d : Dfa) : List Int := if VD d then mapM d else []
def AccX (d : Dfa) : List (List UInt8) := if VD d then AccW (minD d) else []
theorem valid_len {L : Int} {l : List UInt8} (h : validW L l = true) : l.length ≤ 9223372036854775807 := by
  unfold validW at h
  rw [Bool.and_eq_true, decide_eq_true_eq] at h
  omega
theorem tests_len {m : Dfa} {ts : List (List UInt8)} (h : TestsOK m ts) : ∀ a ∈ ts, a.length ≤ 9223372036854775807 := fun a ha => valid_len (h.ok a ha)
theorem acc_len {d : Dfa} (hv : VD d) : ∀ a ∈ AccW (minD d), a.length ≤ 9223372036854775807 := fun a ha => by
  obtain ⟨i, hi, e⟩ := mem_getD [] ha
  have h1 := (acc_ok hv).run i hi
  rw [e] at h1
  have h2 := RunV_bd (d := minD d) (q := (minD d).s) (l := a) (by omega)
  exact valid_len h2.2.2.2
set_option maxHeartbeats 1000000 in
theorem s_prove (w : World) (v : Value) (d : Dfa) (h : RdD (fun _ => False) w v d) : CallS Tryz.prog 6 [v] w (fun r o => ∃ (vF vN vS vA vT : Value) (rs : List Value) (ts : List (List UInt8)), r = .tuple #[.agg #[.int .i64 (MinV d).L, .int .i64 (MinV d).s, vF, vN], .agg #[vS, vA, vT], .int .i64 (errV d)] ∧ rs.length = (MinV d).nx.length ∧ IsSl vF ∧ IsSl vN ∧ IsSl vS ∧ IsSl vA ∧ IsSl vT ∧ (VD d → TestsOK (minD d) ts) ∧ (¬ VD d → ts = []) ∧ o = dfaO 4 3 28 vF vN rs (MinV d) ++ [row vS 3 1 (MapV d).length ((MapV d).map (Value.int .i64)), row vA 9 1 (AccX d).length ((AccX d).map sv), row vT 9 1 ts.length (ts.map sv)]) := by
 have h0 := h
 obtain ⟨vF, vN, rfl, hF, hN⟩ := h
 have hF0 := hF
 have hN0 := hN
 obtain ⟨rs, hrl, hNr, hNi⟩ := hN
 have sF := hF.sl
 have sN := hNr.sl
 have hmf := hF.le
 have hmn := hNr.le
 unfold RdL at hF
 refine spec_of Tryz.func6 rfl (leb rfl) ?_
 refine .sr fun _ hK1 => ?_
 refine AK.box_ (E := 25) (cs := [.int .i64 d.L, .int .i64 d.s, vF, vN]) rfl rfl rfl trivial rfl (fun bx1 => ?_)
 refine AK.alloc el25 rfl rfl trivial rfl (fun bx2 => ?_)
 refine AK.alloc el31 rfl rfl trivial rfl (fun bx3 => ?_)
 refine .as rfl (.nt hK1 ?_)
 refine .seq fun _ hK2 => ?_
 refine .sr fun _ hK3 => ?_
 refine .v (.loadBoxG ag25 rfl bsp rfl rfl) ?_
 refine AK.call co17 rfl (fun w hw => s_validate w _ d (h0.at hw)) trivial rfl ?_
 rintro r o ⟨rfl, rfl⟩
 refine .as rfl (.nt hK3 ?_)
 refine .sr fun _ hK4 => ?_
 refine .mv rfl ?_
 refine .v (.neq rfl rfl) ?_
 refine .nt hK4 ?_
 refine AK.condNe rfl (fun hc0 => ?_) (fun hc0 => ?_)
 ·have hnv : ¬ VD d := fun h => hc0 ((errV_iff d).2 h)
  refine .sr fun _ hK5 => ?_
  refine .v (.build (parts := []) (cs := #[.int .i64 0, .int .i64 0, .slice none 0 0, .slice none 0 0]) rfl (by kernel_rfl)) ?_
  refine .v (.build (parts := []) (cs := #[.slice none 0 0, .slice none 0 0, .slice none 0 0]) rfl (by kernel_rfl)) ?_
  refine .mv rfl ?_
  refine AK.storeBox 1 (us := [.int .i64 0, .int .i64 0, .slice none 0 0, .slice none 0 0]) (cs' := [.int .i64 0, .int .i64 0, .slice none 0 0, .slice none 0 0]) rfl sz25 rfl rfl rfl rfl oneP (leb rfl) rfl trivial ?_
  refine AK.storeBox 2 (us := [.slice none 0 0, .slice none 0 0, .slice none 0 0]) (cs' := [.slice none 0 0, .slice none 0 0, .slice none 0 0]) rfl sz31 rfl rfl rfl rfl oneP (leb rfl) rfl trivial ?_
  refine .as rfl (.nt hK5 (.ret (.then_ret ?_)))
  refine AK.own' (dfaO 4 3 28 (.slice none 0 0) (.slice none 0 0) [] nilD ++ [row (.slice none 0 0) 3 1 0 [], row (.slice none 0 0) 9 1 0 [], row (.slice none 0 0) 9 1 0 [], box bx2 25 4 [.int .i64 0, .int .i64 0, .slice none 0 0, .slice none 0 0], box bx3 31 3 [.slice none 0 0, .slice none 0 0, .slice none 0 0]]) (fun w hw => by have h1 := ((((((hw.pick [1, 2] (by decide) rfl rfl).ghost 4 1).ghost 28 1).ghostG (f := Value.int .i64) 3).ghost 3 1).ghost 9 1).ghost 9 1; exact h1.pick [2, 3, 4, 5, 6, 7, 0, 1] (by decide) rfl rfl) ?_
  refine AK.retG [.cell 2 25, .cell 3 31, .tmp 4] rfl (.cons (.cell ag25 rfl bsp rfl rfl) (.cons (.cell ag31 rfl bsp rfl rfl) (.cons (.tmp rfl) (.nil)))) (fun w hw => ⟨_, _, ?_, rfl, Ret.of (hw.pick [0, 1, 2, 3, 4, 5] (by decide) rfl rfl)⟩)
  rw [show MinV d = nilD from if_neg hnv, show MapV d = [] from if_neg hnv, show AccX d = [] from if_neg hnv]
  exact ⟨_, _, _, _, _, [], [], rfl, rfl, nilSl, nilSl, nilSl, nilSl, nilSl, fun h => absurd h hnv, fun _ => rfl, rfl⟩
 ·have hv : VD d := (errV_iff d).1 hc0
  refine .skip ?_
  refine AK.then_ (hK2 _ ?_)
  refine .sr fun _ hK6 => ?_
  refine .v (.loadBoxG ag25 rfl bsp rfl rfl) ?_
  refine AK.call co18 rfl (fun w hw => s_minimal w _ d (h0.at hw) hv) trivial rfl ?_
  rintro r o ⟨mF, mN, mS, mrs, rfl, hmrs, smF, smN, smS, rfl⟩
  refine .mv rfl ?_
  refine .v (.extract rfl rfl) ?_
  refine .v (.extract rfl rfl) ?_
  refine AK.alloc el25 rfl rfl trivial rfl (fun bx6 => ?_)
  refine AK.storeBox 7 (us := [.int .i64 (minD d).L, .int .i64 (minD d).s, mF, mN]) (cs' := [.int .i64 (minD d).L, .int .i64 (minD d).s, mF, mN]) rfl sz25 rfl rfl rfl rfl oneP (leb rfl) rfl trivial ?_
  refine .as rfl (.nt hK6 ?_)
  refine .seq fun _ hK7 => ?_
  try (conv => enter [2, 2]; simp only [nrm])
  refine AK.held 7 mixed ?_
  refine HeldK.first 0 (fuel := 9) (listed' := (lb 10 1)) _ rfl krf krf rfl (Yl.loadBoxG ag25 rfl bsp rfl rfl) trivial rfl ?_
  refine HeldK.firstP 1 (fuel := 8) (listed' := (lb 10 3)) _ rfl krf krf rfl (PY.move rfl) trivial rfl ?_
  refine HeldK.first 2 (fuel := 7) (listed' := (lb 10 7)) _ rfl krf krf rfl (Yl.loadBoxG ag25 rfl bsp rfl rfl) trivial rfl ?_
  refine HeldK.first 4 (fuel := 6) (listed' := (lb 10 23)) _ rfl krf krf rfl (Yl.loadBoxG ag25 rfl bsp rfl rfl) trivial rfl ?_
  refine HeldK.one 3 (fuel := 5) (listed' := (lb 10 31)) krf rfl krf ?_
  refine AK.call co19 rfl (fun w hw => s_access w _ (minD d) (RdD.own 3 hw hmrs rfl rfl rfl)) trivial rfl ?_
  rintro vA o ⟨svA, rfl⟩
  refine .nil ?_
  try (conv => enter [2, 2]; simp only [nrm])
  refine HeldK.back Go.Sx.hle ?_
  refine HeldK.one 5 (fuel := 4) (listed' := (lb 10 63)) krf rfl krf ?_
  refine AK.call co20 rfl (fun w hw => s_tests w _ (minD d) (RdD.own 3 hw hmrs rfl rfl rfl) (min_vd hv) (fun p q hp hq he => min_red hv hp hq he)) trivial rfl ?_
  rintro vT o ⟨ts, svT, rfl, hts⟩
  refine .nil ?_
  try (conv => enter [2, 2]; simp only [nrm])
  refine HeldK.back Go.Sx.hle ?_
  refine HeldK.firstP 6 (fuel := 3) (listed' := (lb 10 127)) _ rfl krf krf rfl (PY.build (parts := [(0, .tmp 21), (1, .tmp 23), (2, .tmp 25)]) (cs := #[mS, vA, vT]) rfl (by obtain ⟨_, _, _, rfl⟩ := smS; obtain ⟨_, _, _, rfl⟩ := svA; obtain ⟨_, _, _, rfl⟩ := svT; kernel_rfl)) trivial rfl ?_
  refine HeldK.one 7 (fuel := 2) (listed' := (lb 10 255)) krf rfl krf ?_
  refine AK.storeBox 1 (us := [.int .i64 (minD d).L, .int .i64 (minD d).s, mF, mN]) (cs' := [.int .i64 (minD d).L, .int .i64 (minD d).s, mF, mN]) rfl sz25 rfl rfl rfl rfl oneP (leb rfl) rfl trivial ?_
  refine .nil ?_
  try (conv => enter [2, 2]; simp only [nrm])
  refine HeldK.backN 8 krf rfl krf ?_
  refine AK.storeBox 2 (us := [mS, vA, vT]) (cs' := [mS, vA, vT]) rfl sz31 rfl rfl rfl rfl oneP (leb rfl) rfl trivial ?_
  refine .as rfl (.nil ?_)
  refine AK.fromQn ?_
  refine AK.then_ (hK7 _ ?_)
  refine .ret ?_
  refine AK.retG [.cell 2 25, .cell 3 31, .tmp 4] rfl (.cons (.cell ag25 rfl bsp rfl rfl) (.cons (.cell ag31 rfl bsp rfl rfl) (.cons (.tmp rfl) (.nil)))) (fun w hw => ⟨_, _, ?_, rfl, Ret.of (hw.pick [3, 4, 5, 6, 8, 9] (by decide) rfl rfl)⟩)
  rw [show MinV d = minD d from if_pos hv, show MapV d = mapM d from if_pos hv, show AccX d = AccW (minD d) from if_pos hv, (errV_iff d).2 hv]
  exact ⟨mF, mN, mS, vA, vT, mrs, ts, rfl, hmrs, smF, smN, smS, svA, svT, fun _ => hts, fun h => absurd hv h, rfl⟩

end Go.Proofs.YtafldkjdeompjaaGreatDoor

namespace Go.Proofs.YtafldkjdeompjaaGreatDoor
open Go.Sx Go.RowKit
def smallB (d : Dfa) (m : Int) : Bool := decide ((d.fin.length : Int) ≤ m) && (decide (d.L ≤ 2) && decide (errV d = 0))
theorem cert2 {d : Dfa} (hv : VD d) {ts : List (List UInt8)} (hts : VD d → TestsOK (minD d) ts) : CertOK d (TrimV d) (MinV d) (NumV d) (MapV d) (AccX d) ts := by
  rw [show TrimV d = trimD d from if_pos hv, show MinV d = minD d from if_pos hv, show NumV d = numT d from if_pos hv, show MapV d = mapM d from if_pos hv, show AccX d = AccW (minD d) from if_pos hv]
  exact cert_ok hv (hts hv)
theorem s_small (w : World) (v : Value) (d : Dfa) (h : RdD (fun _ => False) w v d) (m : Int) : CallS Tryz.prog 4 [v, .int .i64 m] w (fun r o => r = .bool (smallB d m) ∧ o = []) := by
 have h0 := h
 obtain ⟨vF, vN, rfl, hF, hN⟩ := h
 have hF0 := hF
 have hN0 := hN
 obtain ⟨rs, hrl, hNr, hNi⟩ := hN
 have sF := hF.sl
 have sN := hNr.sl
 have hmf := hF.le
 have hmn := hNr.le
 unfold RdL at hF
 refine spec_of Tryz.func4 rfl (leb rfl) ?_
 refine .sr fun _ hK1 => ?_
 refine AK.box_ (E := 25) (cs := [.int .i64 d.L, .int .i64 d.s, vF, vN]) rfl rfl rfl trivial rfl (fun bx2 => ?_)
 refine .as rfl (.nt hK1 ?_)
 refine .sr fun _ hK2 => ?_
 refine .v (.fieldAddr fd25_2 rfl) ?_
 refine .v (.loadBox on22 rfl bsp rfl) ?_
 refine .v (.lenR sl22 rfl rdp) ?_
 refine .mv rfl ?_
 refine .v (.leq rfl rfl) ?_
 refine .mv rfl ?_
 refine AK.splitB (g := 10) rfl (fun hg_1_5 => ?_) (fun hg_1_5 => ?_)
 ·have hg_1_5' := hg_1_5
  try simp only [bs] at hg_1_5'
  refine AK.val _ (Yl.fieldAddr fd25_0 rfl) ⟨_, rfl, gB hg_1_5⟩ rfl ?_
  refine AK.val _ (Yl.loadBox on3 rfl bsp rfl) ⟨_, rfl, gB hg_1_5⟩ rfl ?_
  refine AK.val _ (Yl.leq rfl rfl) ⟨_, rfl, gB hg_1_5⟩ rfl ?_
  refine .v (.pickT rfl (hg_1_5) rfl) ?_
  refine .mv rfl ?_
  refine AK.splitB (g := 15) rfl (fun hg_1_10 => ?_) (fun hg_1_10 => ?_)
  ·have hg_1_10' := hg_1_10
   try simp only [bs] at hg_1_10'
   refine AK.val _ (Yl.loadBoxG ag25 rfl bsp rfl rfl) ⟨_, rfl, gB hg_1_10⟩ rfl ?_
   refine AK.call co11 rfl (fun w hw => s_refvalidate w _ d (h0.at hw)) ⟨_, rfl, gB hg_1_10⟩ rfl ?_
   rintro r o ⟨rfl, rfl⟩
   refine AK.val _ (Yl.eql rfl rfl) ⟨_, rfl, gB hg_1_10⟩ rfl ?_
   refine .v (.pickT rfl (hg_1_10) rfl) ?_
   refine .as rfl (.nt hK2 (.ret ?_))
   refine AK.ret1 rfl rfl (fun w hw => ⟨_, _, ?_, rfl, Ret.of (hw.pick [] (by decide) rfl rfl)⟩)
   refine ⟨congrArg Value.bool ?_, rfl⟩
   unfold smallB
   first | (simp_all; done) | (simp_all <;> omega)
  ·have hg_1_10' := hg_1_10
   try simp only [bs] at hg_1_10'
   refine AK.pass rfl rfl (hg_1_10) rfl ?_
   refine AK.pass rfl rfl (hg_1_10) rfl ?_
   refine AK.pass rfl rfl (hg_1_10) rfl ?_
   refine .v (.pickF rfl (hg_1_10) rfl) ?_
   refine .as rfl (.nt hK2 (.ret ?_))
   refine AK.ret1 rfl rfl (fun w hw => ⟨_, _, ?_, rfl, Ret.of (hw.pick [] (by decide) rfl rfl)⟩)
   refine ⟨congrArg Value.bool ?_, rfl⟩
   unfold smallB
   first | (simp_all; done) | (simp_all <;> omega)
 ·have hg_1_5' := hg_1_5
  try simp only [bs] at hg_1_5'
  refine AK.pass rfl rfl (hg_1_5) rfl ?_
  refine AK.pass rfl rfl (hg_1_5) rfl ?_
  refine AK.pass rfl rfl (hg_1_5) rfl ?_
  refine .v (.pickF rfl (hg_1_5) rfl) ?_
  refine .mv rfl ?_
  refine AK.pass rfl rfl rfl rfl ?_
  refine AK.pass rfl rfl rfl rfl ?_
  refine AK.pass rfl rfl rfl rfl ?_
  refine .v (.pickF rfl (rfl) rfl) ?_
  refine .as rfl (.nt hK2 (.ret ?_))
  refine AK.ret1 rfl rfl (fun w hw => ⟨_, _, ?_, rfl, Ret.of (hw.pick [] (by decide) rfl rfl)⟩)
  refine ⟨congrArg Value.bool ?_, rfl⟩
  unfold smallB
  first | (simp_all; done) | (simp_all <;> omega)

set_option maxHeartbeats 2000000 in
theorem l_certs (w : World) (v : Value) (d : Dfa) (h : RdD (fun _ => False) w v d) (hT : TbA w) : CallS Tryz.prog 3 [v] w (fun r o => r = .bool true ∧ o = []) := by
 have h0 := h
 obtain ⟨vF, vN, rfl, hF, hN⟩ := h
 have hF0 := hF
 have hN0 := hN
 obtain ⟨rs, hrl, hNr, hNi⟩ := hN
 have sF := hF.sl
 have sN := hNr.sl
 have hmf := hF.le
 have hmn := hNr.le
 unfold RdL at hF
 refine spec_of Tryz.func3 rfl (leb rfl) ?_
 refine .sr fun _ hK1 => ?_
 refine AK.box_ (E := 25) (cs := [.int .i64 d.L, .int .i64 d.s, vF, vN]) rfl rfl rfl trivial rfl (fun bx1 => ?_)
 refine .as rfl (.nt hK1 ?_)
 refine .seq fun _ hK2 => ?_
 refine .sr fun _ hK3 => ?_
 refine .v (.loadBoxG ag25 rfl bsp rfl rfl) ?_
 refine AK.call co4 rfl (fun w hw => s_small w _ d (h0.at hw) 10) trivial rfl ?_
 rintro r o ⟨rfl, rfl⟩
 refine .v (.not rfl) ?_
 refine .nt hK3 ?_
 refine AK.condB rfl (fun hc0 => ?_) (fun hc0 => ?_)
 ·refine .sr fun _ hK4 => ?_
  refine AK.call co5 rfl (fun w hw => s_awake w (hT.at hw)) trivial rfl ?_
  rintro r o ⟨rfl, rfl⟩
  refine .as rfl (.nt hK4 (.ret (.then_ret ?_)))
  refine AK.ret1 rfl rfl (fun w hw => ⟨_, _, ?_, rfl, Ret.of (hw.pick [] (by decide) rfl rfl)⟩)
  exact ⟨rfl, rfl⟩
 ·have hsm : ((d.fin.length : Int) ≤ 10 ∧ d.L ≤ 2 ∧ errV d = 0) := by
   have h : smallB d 10 = true := by simpa using hc0
   unfold smallB at h
   simpa using h
  have hz := hsm.2.2
  have hv : VD d := (errV_iff d).1 hz
  refine .skip ?_
  refine AK.then_ (hK2 _ ?_)
  refine .sr fun _ hK5 => ?_
  refine .v (.loadBoxG ag25 rfl bsp rfl rfl) ?_
  refine AK.call co6 rfl (fun w hw => s_prove w _ d (h0.at hw)) trivial rfl ?_
  rintro r o ⟨mF, mN, vS, vA, vT, ms, ts, rfl, hml, smF, smN, smS, svA, svT, hts, hts0, rfl⟩
  have hc := cert2 hv hts
  have hla : ∀ a ∈ AccX d, a.length ≤ 9223372036854775807 := by rw [show AccX d = AccW (minD d) from if_pos hv]; exact acc_len hv
  have hlt := tests_len (hts hv)
  have hc1 := hc.num; have hc2 := hc.mapl; have hc3 := hc.bis.len; have hc4 := hc.tl; have hc5 := hc.ml
  refine .mv rfl ?_
  refine .v (.extract rfl rfl) ?_
  refine .v (.extract rfl rfl) ?_
  refine .v (.extract rfl rfl) ?_
  refine AK.alloc el25 rfl rfl trivial rfl (fun bx3 => ?_)
  refine AK.alloc el31 rfl rfl trivial rfl (fun bx4 => ?_)
  refine AK.storeBox 7 (us := [.int .i64 (MinV d).L, .int .i64 (MinV d).s, mF, mN]) (cs' := [.int .i64 (MinV d).L, .int .i64 (MinV d).s, mF, mN]) rfl sz25 rfl rfl rfl rfl oneP (leb rfl) rfl trivial ?_
  refine AK.storeBox 8 (us := [vS, vA, vT]) (cs' := [vS, vA, vT]) rfl sz31 rfl rfl rfl rfl oneP (leb rfl) rfl trivial ?_
  refine .as rfl (.nt hK5 ?_)
  refine .sr fun _ hK6 => ?_
  refine .v (.loadBoxG ag25 rfl bsp rfl rfl) ?_
  refine AK.call co7 rfl (fun w hw => s_trim w _ d (h0.at hw)) trivial rfl ?_
  rintro r o ⟨tF, tN, vM, us, rfl, htl, stF, stN, svM, rfl⟩
  refine .mv rfl ?_
  refine .v (.extract rfl rfl) ?_
  refine .v (.extract rfl rfl) ?_
  refine AK.alloc el25 rfl rfl trivial rfl (fun bx6 => ?_)
  refine AK.storeBox 13 (us := [.int .i64 (TrimV d).L, .int .i64 (TrimV d).s, tF, tN]) (cs' := [.int .i64 (TrimV d).L, .int .i64 (TrimV d).s, tF, tN]) rfl sz25 rfl rfl rfl rfl oneP (leb rfl) rfl trivial ?_
  refine .as rfl (.nt hK6 ?_)
  refine .seq fun _ hK7 => ?_
  refine .sr fun _ hK8 => ?_
  refine .mv rfl ?_
  refine .v (.neq rfl rfl) ?_
  refine .mv rfl ?_
  refine AK.knownF (g := 31) rfl (decide_eq_false (not_not_intro hz)) (fun hg_5_2 => ?_)
  refine AK.val _ (Yl.loadBoxG ag25 rfl bsp rfl rfl) ⟨_, rfl, gB hg_5_2⟩ rfl ?_
  refine AK.val _ (Yl.loadBoxG ag25 rfl bsp rfl rfl) ⟨_, rfl, gB hg_5_2⟩ rfl ?_
  refine AK.val _ (Yl.loadBoxG ag31 rfl bsp rfl rfl) ⟨_, rfl, gB hg_5_2⟩ rfl ?_
  refine AK.call co8 rfl (fun w hw => s_check w _ d (h0.at hw) _ (MinV d) (RdD.own 1 hw hml rfl rfl rfl) _ _ _ (MapV d) (AccX d) ts (RdL.own 4 hw rfl) (RdL.own 5 hw rfl) hla (RdL.own 6 hw rfl) hlt) ⟨_, rfl, gB hg_5_2⟩ rfl ?_
  rintro r o ⟨b1, rfl, hb1, rfl⟩
  obtain rfl : b1 = true := hb1.2 hc.chk
  refine AK.val _ (Yl.not rfl) ⟨_, rfl, gB hg_5_2⟩ rfl ?_
  refine .v (.pickF rfl (hg_5_2) rfl) ?_
  refine .mv rfl ?_
  refine AK.knownF (g := 38) rfl (rfl) (fun hg_5_9 => ?_)
  refine AK.val _ (Yl.move rfl) ⟨_, rfl, gB hg_5_9⟩ rfl ?_
  refine AK.val _ (Yl.lenR sl28 rfl rdp) ⟨_, rfl, gB hg_5_9⟩ rfl ?_
  refine AK.val _ (Yl.fieldAddr fd25_2 rfl) ⟨_, rfl, gB hg_5_9⟩ rfl ?_
  refine AK.val _ (Yl.loadBox on22 rfl bsp rfl) ⟨_, rfl, gB hg_5_9⟩ rfl ?_
  refine AK.val _ (Yl.lenR sl22 rfl rdp) ⟨_, rfl, gB hg_5_9⟩ rfl ?_
  refine AK.val _ (Yl.neq rfl rfl) ⟨_, rfl, gB hg_5_9⟩ rfl ?_
  refine .v (.pickF rfl (hg_5_9) rfl) ?_
  refine .mv rfl ?_
  refine AK.knownF (g := 46) rfl (decide_eq_false (by omega)) (fun hg_5_17 => ?_)
  refine AK.val _ (Yl.fieldAddr fd31_0 rfl) ⟨_, rfl, gB hg_5_17⟩ rfl ?_
  refine AK.val _ (Yl.loadBox on28 rfl bsp rfl) ⟨_, rfl, gB hg_5_17⟩ rfl ?_
  refine AK.val _ (Yl.lenR sl28 rfl rdp) ⟨_, rfl, gB hg_5_17⟩ rfl ?_
  refine AK.val _ (Yl.fieldAddr fd25_2 rfl) ⟨_, rfl, gB hg_5_17⟩ rfl ?_
  refine AK.val _ (Yl.loadBox on22 rfl bsp rfl) ⟨_, rfl, gB hg_5_17⟩ rfl ?_
  refine AK.val _ (Yl.lenR sl22 rfl rdp) ⟨_, rfl, gB hg_5_17⟩ rfl ?_
  refine AK.val _ (Yl.neq rfl rfl) ⟨_, rfl, gB hg_5_17⟩ rfl ?_
  refine .v (.pickF rfl (hg_5_17) rfl) ?_
  refine .nt hK8 ?_
  refine AK.cond_f rfl (decide_eq_false (by omega)) ?_
  refine .skip ?_
  refine AK.then_ (hK7 _ ?_)
  refine .sr fun _ hK9 => ?_
  refine .v (.loadBoxG ag25 rfl bsp rfl rfl) ?_
  refine .v (.loadBoxG ag25 rfl bsp rfl rfl) ?_
  refine AK.call co9 rfl (fun w hw => s_find w _ _ (TrimV d) (MinV d) (RdD.own 9 hw htl rfl rfl rfl) (RdD.own 1 hw hml rfl rfl rfl)) trivial rfl ?_
  rintro r o ⟨pv, rfl, spv, rfl⟩
  refine .mv rfl ?_
  refine .v (.extract rfl rfl) ?_
  refine .v (.extract rfl rfl) ?_
  refine .v (.extract rfl rfl) ?_
  refine .v (.extract rfl rfl) ?_
  refine .as rfl (.as rfl (.as rfl (.as rfl (.nt hK9 ?_))))
  refine .seq fun _ hK10 => ?_
  refine .sr fun _ hK11 => ?_
  refine .mv rfl ?_
  refine .v (.neq rfl rfl) ?_
  refine .mv rfl ?_
  refine AK.knownF (g := 65) rfl (decide_eq_false (not_not_intro hc.pair)) (fun hg_8_2 => ?_)
  refine AK.val _ (Yl.move rfl) ⟨_, rfl, gB hg_8_2⟩ rfl ?_
  refine AK.val _ (Yl.not rfl) ⟨_, rfl, gB hg_8_2⟩ rfl ?_
  refine .v (.pickF rfl (hg_8_2) rfl) ?_
  refine .mv rfl ?_
  refine AK.knownF (g := 69) rfl (by rw [hc.find]; rfl) (fun hg_8_6 => ?_)
  refine AK.val _ (Yl.move rfl) ⟨_, rfl, gB hg_8_6⟩ rfl ?_
  refine AK.val _ (Yl.neqS un9 rfl rfl) ⟨_, rfl, gB hg_8_6⟩ rfl ?_
  refine .v (.pickF rfl (hg_8_6) rfl) ?_
  refine .mv rfl ?_
  refine AK.knownF (g := 73) rfl (by rw [hc.word]; rfl) (fun hg_8_10 => ?_)
  refine AK.val _ (Yl.loadBoxG ag25 rfl bsp rfl rfl) ⟨_, rfl, gB hg_8_10⟩ rfl ?_
  refine AK.val _ (Yl.loadBoxG ag25 rfl bsp rfl rfl) ⟨_, rfl, gB hg_8_10⟩ rfl ?_
  refine AK.val _ (Yl.move rfl) ⟨_, rfl, gB hg_8_10⟩ rfl ?_
  refine AK.call co10 rfl (fun w hw => s_bcheck w _ _ (TrimV d) (MinV d) (RdD.own 9 hw htl rfl rfl rfl) (RdD.own 1 hw hml rfl rfl rfl) pv (Pt.FindP (TrimV d) (MinV d)) (RdI.own 14 hw rfl)) ⟨_, rfl, gB hg_8_10⟩ rfl ?_
  rintro r o ⟨b2, rfl, hb2, rfl⟩
  obtain rfl : b2 = true := hb2.2 hc.bis
  refine AK.val _ (Yl.not rfl) ⟨_, rfl, gB hg_8_10⟩ rfl ?_
  refine .v (.pickF rfl (hg_8_10) rfl) ?_
  refine .mv rfl ?_
  refine AK.knownF (g := 80) rfl (rfl) (fun hg_8_17 => ?_)
  refine AK.val _ (Yl.move rfl) ⟨_, rfl, gB hg_8_17⟩ rfl ?_
  refine AK.val _ (Yl.lenR sl28 rfl rdp) ⟨_, rfl, gB hg_8_17⟩ rfl ?_
  refine AK.val _ (Yl.fieldAddr fd25_2 rfl) ⟨_, rfl, gB hg_8_17⟩ rfl ?_
  refine AK.val _ (Yl.loadBox on22 rfl bsp rfl) ⟨_, rfl, gB hg_8_17⟩ rfl ?_
  refine AK.val _ (Yl.lenR sl22 rfl rdp) ⟨_, rfl, gB hg_8_17⟩ rfl ?_
  refine AK.val _ (Yl.fieldAddr fd25_2 rfl) ⟨_, rfl, gB hg_8_17⟩ rfl ?_
  refine AK.val _ (Yl.loadBox on22 rfl bsp rfl) ⟨_, rfl, gB hg_8_17⟩ rfl ?_
  refine AK.val _ (Yl.lenR sl22 rfl rdp) ⟨_, rfl, gB hg_8_17⟩ rfl ?_
  refine AK.val _ (Yl.add rfl rfl (by omega)) ⟨_, rfl, gB hg_8_17⟩ rfl ?_
  refine AK.val _ (Yl.neq rfl rfl) ⟨_, rfl, gB hg_8_17⟩ rfl ?_
  refine .v (.pickF rfl (hg_8_17) rfl) ?_
  refine .nt hK11 ?_
  refine AK.cond_f rfl (decide_eq_false (by omega)) ?_
  refine .skip ?_
  refine AK.then_ (hK10 _ ?_)
  refine .seq fun _ hK12 => ?_
  refine .sr fun _ hK13 => ?_
  refine .mv rfl ?_
  refine .v (.lenR sl28 rfl rdp) ?_
  refine .mv rfl (.nt hK13 (.block ?_))
  refine AK.loopK (X := Nat) [(3, _), (4, _), (6, _), (8, _), (92, _), (93, _)] (fun k => [(94, .int .i64 (k : Int))]) (fun k => [box bx1 25 4 [.int .i64 d.L, .int .i64 d.s, vF, vN], row mF 4 1 (MinV d).fin.length ((MinV d).fin.map Value.bool), row mN 28 1 (MinV d).nx.length ms, bigA (matG (Value.int .i64) 3 ms (MinV d).nx), row vS 3 1 (MapV d).length ((MapV d).map (Value.int .i64)), row vA 9 1 (AccX d).length ((AccX d).map sv), row vT 9 1 ts.length (ts.map sv), box bx3 25 4 [.int .i64 (MinV d).L, .int .i64 (MinV d).s, mF, mN], box bx4 31 3 [vS, vA, vT], row tF 4 1 (TrimV d).fin.length ((TrimV d).fin.map Value.bool), row tN 28 1 (TrimV d).nx.length us, bigA (matG (Value.int .i64) 3 us (TrimV d).nx), row vM 3 1 (NumV d).length ((NumV d).map (Value.int .i64)), box bx6 25 4 [.int .i64 (TrimV d).L, .int .i64 (TrimV d).s, tF, tN], row pv 3 1 (Pt.FindP (TrimV d) (MinV d)).length ((Pt.FindP (TrimV d) (MinV d)).map (Value.int .i64))]) (fun k => k ≤ (NumV d).length) (fun k => (NumV d).length - k) (0) slr ?_ ?_ ?_ ?_
  ·exact Nat.zero_le _
  ·exact slr
  ·exact fun w hw => hw
  ·intro k hg0 _ hK14
   refine .sr fun _ hK15 => ?_
   refine .v (.lss rfl rfl) ?_
   refine .nt hK15 ?_
   refine .seq fun _ hK16 => ?_
   refine AK.condD rfl (fun hc3 => ?_) (fun hc3 => ?_)
   ·have hat := hc.at_ k (by omega)
    refine .skip ?_
    refine AK.then_ (hK16 _ ?_)
    refine .seq fun _ hK17 => ?_
    refine .block ?_
    refine .sr fun _ hK18 => ?_
    refine .mv rfl ?_
    first | refine .v (.iN sl28 rfl rfl) ?_ | refine .v (.iK sl28 rfl rfl) ?_
    refine .v (.loadI on3 rfl rdp (by omega)) ?_
    refine .as rfl (.as rfl (.nt hK18 ?_))
    refine .seq fun _ hK19 => ?_
    refine AK.quiet mixed krf ?_
    refine .mv rfl ?_
    refine .v (.fieldAddr fd25_2 rfl) ?_
    refine .v (.loadBox on22 rfl bsp rfl) ?_
    refine .v (.lenR sl22 rfl rdp) ?_
    refine .v (.geq rfl rfl) ?_
    refine .mv rfl ?_
    refine QK.knownF (g := 104) rfl (decide_eq_false (by omega)) (fun hg_13_5 => ?_)
    refine QK.val _ (Yl.move rfl) ⟨_, rfl, gB hg_13_5⟩ rfl ?_
    refine QK.val _ (Yl.geq rfl rfl) ⟨_, rfl, gB hg_13_5⟩ rfl ?_
    refine QK.val _ (Yl.move rfl) ⟨_, rfl, gB hg_13_5⟩ rfl ?_
    refine QK.splitB (g := 107) rfl (fun hg_13_8 => ?_) (fun hg_13_8 => ?_)
    ·have hg_13_8' := hg_13_8
     try simp only [bs] at hg_13_8'
     refine QK.val _ (Yl.fieldAddr fd31_0 rfl) ⟨_, rfl, gB hg_13_8⟩ rfl ?_
     refine QK.val _ (Yl.loadBox on28 rfl bsp rfl) ⟨_, rfl, gB hg_13_8⟩ rfl ?_
     refine QK.val _ (Yl.move rfl) ⟨_, rfl, gB hg_13_8⟩ rfl ?_
     first | refine QK.val _ (.iN sl28 rfl rfl) ⟨_, rfl, gB hg_13_8⟩ rfl ?_ | refine QK.val _ (.iK sl28 rfl rfl) ⟨_, rfl, gB hg_13_8⟩ rfl ?_
     refine QK.val _ (Yl.loadI on3 rfl rdp (by omega)) ⟨_, rfl, gB hg_13_8⟩ rfl ?_
     refine QK.val _ (Yl.lss rfl rfl) ⟨_, rfl, gB hg_13_8⟩ rfl ?_
     refine QK.val _ (Yl.move rfl) ⟨_, rfl, gB hg_13_8⟩ rfl ?_
     refine QK.knownF (g := 114) rfl (decide_eq_false (by omega)) (fun hg_13_15 => ?_)
     refine QK.val _ (Yl.fieldAddr fd31_0 rfl) ⟨_, rfl, gB hg_13_15⟩ rfl ?_
     refine QK.val _ (Yl.loadBox on28 rfl bsp rfl) ⟨_, rfl, gB hg_13_15⟩ rfl ?_
     refine QK.val _ (Yl.move rfl) ⟨_, rfl, gB hg_13_15⟩ rfl ?_
     first | refine QK.val _ (.iN sl28 rfl rfl) ⟨_, rfl, gB hg_13_15⟩ rfl ?_ | refine QK.val _ (.iK sl28 rfl rfl) ⟨_, rfl, gB hg_13_15⟩ rfl ?_
     refine QK.val _ (Yl.loadI on3 rfl rdp (by omega)) ⟨_, rfl, gB hg_13_15⟩ rfl ?_
     refine QK.val _ (Yl.fieldAddr fd25_2 rfl) ⟨_, rfl, gB hg_13_15⟩ rfl ?_
     refine QK.val _ (Yl.loadBox on22 rfl bsp rfl) ⟨_, rfl, gB hg_13_15⟩ rfl ?_
     refine QK.val _ (Yl.lenR sl22 rfl rdp) ⟨_, rfl, gB hg_13_15⟩ rfl ?_
     refine QK.val _ (Yl.geq rfl rfl) ⟨_, rfl, gB hg_13_15⟩ rfl ?_
     refine QK.val _ (Yl.pickF rfl (hg_13_15) rfl) ⟨_, rfl, gB hg_13_8⟩ rfl ?_
     refine QK.val _ (Yl.move rfl) ⟨_, rfl, gB hg_13_8⟩ rfl ?_
     refine QK.knownF (g := 125) rfl (decide_eq_false (by omega)) (fun hg_13_26 => ?_)
     refine QK.val _ (Yl.move rfl) ⟨_, rfl, gB hg_13_26⟩ rfl ?_
     refine QK.val _ (Yl.move rfl) ⟨_, rfl, gB hg_13_26⟩ rfl ?_
     first | refine QK.val _ (.iN sl28 rfl rfl) ⟨_, rfl, gB hg_13_26⟩ rfl ?_ | refine QK.val _ (.iK sl28 rfl rfl) ⟨_, rfl, gB hg_13_26⟩ rfl ?_
     refine QK.val _ (Yl.loadI on3 rfl rdp (by omega)) ⟨_, rfl, gB hg_13_26⟩ rfl ?_
     refine QK.val _ (Yl.move rfl) ⟨_, rfl, gB hg_13_26⟩ rfl ?_
     refine QK.val _ (Yl.fieldAddr fd25_2 rfl) ⟨_, rfl, gB hg_13_26⟩ rfl ?_
     refine QK.val _ (Yl.loadBox on22 rfl bsp rfl) ⟨_, rfl, gB hg_13_26⟩ rfl ?_
     refine QK.val _ (Yl.lenR sl22 rfl rdp) ⟨_, rfl, gB hg_13_26⟩ rfl ?_
     refine QK.val _ (Yl.fieldAddr fd31_0 rfl) ⟨_, rfl, gB hg_13_26⟩ rfl ?_
     refine QK.val _ (Yl.loadBox on28 rfl bsp rfl) ⟨_, rfl, gB hg_13_26⟩ rfl ?_
     refine QK.val _ (Yl.move rfl) ⟨_, rfl, gB hg_13_26⟩ rfl ?_
     first | refine QK.val _ (.iN sl28 rfl rfl) ⟨_, rfl, gB hg_13_26⟩ rfl ?_ | refine QK.val _ (.iK sl28 rfl rfl) ⟨_, rfl, gB hg_13_26⟩ rfl ?_
     refine QK.val _ (Yl.loadI on3 rfl rdp (by omega)) ⟨_, rfl, gB hg_13_26⟩ rfl ?_
     refine QK.val _ (Yl.add rfl rfl (by omega)) ⟨_, rfl, gB hg_13_26⟩ rfl ?_
     first | refine QK.val _ (.iN sl28 rfl rfl) ⟨_, rfl, gB hg_13_26⟩ rfl ?_ | refine QK.val _ (.iK sl28 rfl rfl) ⟨_, rfl, gB hg_13_26⟩ rfl ?_
     refine QK.val _ (Yl.loadI on3 rfl rdp (by omega)) ⟨_, rfl, gB hg_13_26⟩ rfl ?_
     refine QK.val _ (Yl.neq rfl rfl) ⟨_, rfl, gB hg_13_26⟩ rfl ?_
     refine QK.val _ (Yl.pickF rfl (hg_13_26) rfl) ⟨_, rfl, gB hg_13_8⟩ rfl ?_
     refine QK.val _ (Yl.pickT rfl (hg_13_8) rfl) ⟨_, rfl, gB hg_13_5⟩ rfl ?_
     refine .v (.pickF rfl (hg_13_5) rfl) ?_
     refine QK.nil (QK.fin ?_)
     refine AK.then_ (hK19 _ ?_)
     refine AK.cond_f rfl (by first | rfl | exact decide_eq_false (not_not_intro (by omega))) ?_
     refine .skip (.block_normal ?_)
     refine AK.then_ (hK17 _ ?_)
     refine AK.region ?_
     refine .v (.add rfl rfl (by omega)) ?_
     refine .mv rfl (.nil ?_)
     refine AK.then_ (hK14 _ _ (k + 1) (by omega) (by omega) (slr) (fun w hw => hw))
    ·have hg_13_8' := hg_13_8
     try simp only [bs] at hg_13_8'
     refine QK.pass rfl rfl (hg_13_8) rfl ?_
     refine QK.pass rfl rfl (hg_13_8) rfl ?_
     refine QK.pass rfl rfl (hg_13_8) rfl ?_
     refine QK.pass rfl rfl (hg_13_8) rfl ?_
     refine QK.pass rfl rfl (hg_13_8) rfl ?_
     refine QK.pass rfl rfl (hg_13_8) rfl ?_
     refine QK.pass rfl rfl (hg_13_8) rfl ?_
     refine QK.pass rfl rfl trivial rfl ?_
     refine QK.pass rfl rfl trivial rfl ?_
     refine QK.pass rfl rfl trivial rfl ?_
     refine QK.pass rfl rfl trivial rfl ?_
     refine QK.pass rfl rfl trivial rfl ?_
     refine QK.pass rfl rfl trivial rfl ?_
     refine QK.pass rfl rfl trivial rfl ?_
     refine QK.pass rfl rfl trivial rfl ?_
     refine QK.pass rfl rfl trivial rfl ?_
     refine QK.pass rfl rfl (hg_13_8) rfl ?_
     refine QK.pass rfl rfl (hg_13_8) rfl ?_
     refine QK.pass rfl rfl trivial rfl ?_
     refine QK.pass rfl rfl trivial rfl ?_
     refine QK.pass rfl rfl trivial rfl ?_
     refine QK.pass rfl rfl trivial rfl ?_
     refine QK.pass rfl rfl trivial rfl ?_
     refine QK.pass rfl rfl trivial rfl ?_
     refine QK.pass rfl rfl trivial rfl ?_
     refine QK.pass rfl rfl trivial rfl ?_
     refine QK.pass rfl rfl trivial rfl ?_
     refine QK.pass rfl rfl trivial rfl ?_
     refine QK.pass rfl rfl trivial rfl ?_
     refine QK.pass rfl rfl trivial rfl ?_
     refine QK.pass rfl rfl trivial rfl ?_
     refine QK.pass rfl rfl trivial rfl ?_
     refine QK.pass rfl rfl trivial rfl ?_
     refine QK.pass rfl rfl trivial rfl ?_
     refine QK.pass rfl rfl trivial rfl ?_
     refine QK.pass rfl rfl (hg_13_8) rfl ?_
     refine QK.val _ (Yl.pickF rfl (hg_13_8) rfl) ⟨_, rfl, gB hg_13_5⟩ rfl ?_
     refine .v (.pickF rfl (hg_13_5) rfl) ?_
     refine QK.nil (QK.fin ?_)
     refine AK.then_ (hK19 _ ?_)
     refine AK.cond_f rfl (rfl) ?_
     refine .skip (.block_normal ?_)
     refine AK.then_ (hK17 _ ?_)
     refine AK.region ?_
     refine .v (.add rfl rfl (by omega)) ?_
     refine .mv rfl (.nil ?_)
     refine AK.then_ (hK14 _ _ (k + 1) (by omega) (by omega) (slr) (fun w hw => hw))
   ·refine .exit (.then_exit (.then_exit (.block_exit ?_)))
    refine AK.then_ (hK12 _ ?_)
    refine .sr fun _ hK20 => ?_
    refine AK.call co5 rfl (fun w hw => s_awake w (hT.at hw)) trivial rfl ?_
    rintro r o ⟨rfl, rfl⟩
    refine .as rfl (.nt hK20 (.ret ?_))
    refine AK.ret1 rfl rfl (fun w hw => ⟨_, _, ?_, rfl, Ret.of (hw.pick [] (by decide) rfl rfl)⟩)
    exact ⟨rfl, rfl⟩

end Go.Proofs.YtafldkjdeompjaaGreatDoor
