import Derived.Test.YtaeojcaidcjnaaaXW4
import Derived.Test.YtaeojcaidcjnaaaXRR
set_option linter.unusedVariables false
set_option linter.unusedSimpArgs false
namespace Go.Proofs.Ytaeojcaidcjnaaa
open Go.Sx Go.RowKit
set_option maxHeartbeats 1000000 in
set_option maxRecDepth 100000 in
theorem s_read (w : World) (F : Nat → Prop) (bt fr su : Nat) (vl vs : Value) (T : Wrd) (R : List Int) (bf : Nat) (v vn vf : Value) (ps N : List Wrd) (fl fd : List Int) (hF : FinOK ps N fl fd) (hN : N.length ≤ 4200000) (hbf : BxA w bf [vn, vf]) (nbf : ¬ F bf) (hvn : Rd (fun b => ¬ F b) w vn 6 N.length (fl.map (Value.int .i32))) (hvf : Rd (fun b => ¬ F b) w vf 1 N.length (fd.map (Value.int .i32))) (hsv : IsSl v) (hT : ∀ k, k < T.length → 97 ≤ (T.getD k 0).toNat ∧ (T.getD k 0).toNat < 103) (hR : R.length = T.length) (hTl : T.length ≤ 2048) (hfr : fr ≤ T.length) (hsu : su ≤ 4096) (hok : ∀ j, j < fr → StA N T j (R.getD j 0)) (hc : ∀ j, su ≤ j → j + 1 < T.length → StA N T j (R.getD j 0) → StA N T (j + 1) (R.getD (j + 1) 0)) (hA : (bigA [box bt 91 2 [vl, vs], rowZ vl 5 T.length (T.map byv), row vs 21 1 T.length (R.map (Value.int .i32))]).holds w F) : CallM Try.prog 54 [.agg #[v, .pointer (some ⟨bf, 0, none⟩)], .pointer (some ⟨bt, 0, none⟩), .int .i64 (fr : Int), .int .i64 (su : Int)] w F (fun r A o => ∃ (R' : List Int) (z : Int), (∀ j, j < T.length → StA N T j (R'.getD j 0)) ∧ R'.length = T.length ∧ (∃ e : Nat, z + 1 = (e : Int) ∧ e ≤ T.length ∧ ∀ j, e ≤ j → j < T.length → su ≤ j ∧ R'.getD j 0 = R.getD j 0) ∧ A = bigA [box bt 91 2 [vl, vs], rowZ vl 5 T.length (T.map byv), row vs 21 1 T.length (R'.map (Value.int .i32))] ∧ r = .int .i64 z ∧ o = []) := by
 have hfll := hF.fll
 refine specM_of' Try.func54 rfl (Nat.le_of_ble_eq_true rfl) hA ?_
 refine .sr fun _ hK1 => ?_
 refine AK.box_ (E := 62) (cs := [v, .pointer (some ⟨bf, 0, none⟩)]) rfl rfl rfl trivial rfl (fun bx4 => ?_)
 refine .as rfl (.nt hK1 ?_)
 refine .sr fun _ hK2 => ?_
 refine .as rfl (.nt hK2 ?_)
 refine .seq fun _ hK3 => ?_
 refine .sr fun _ hK4 => ?_
 refine .mv rfl ?_
 refine .v (.gtr rfl rfl) ?_
 refine .nt hK4 ?_
 refine AK.condD rfl (fun hc0 => ?_) (fun hc0 => ?_)
 ·obtain ⟨t0, ht0, ht0N⟩ := (hok (fr - 1) (by omega)).nat
  have hI0 : RdI3 N T R fr fr R (t0 : Int) := ⟨⟨Nat.le_refl _, hfr⟩, hR, by have := hok (fr - 1) (by omega); unfold StA at this; rw [show fr - 1 + 1 = fr by omega, ht0] at this; exact this, hok, fun _ _ => rfl⟩
  refine AK.region ?_
  refine .mv rfl ?_
  refine .v (.nilCheck rfl) ?_
  refine .v (.fieldAddr fd91_1 rfl) ?_
  refine .v (.loadBox on70 rfl bsp rfl) ?_
  refine .mv rfl ?_
  refine .v (.sub rfl rfl (by omega)) ?_
  first | refine .v (.iN sl70 rfl rfl (hr := (by first | exact rdp | exact (RdS.ownZ 1 rfl)))) ?_ | refine .v (.iK sl70 rfl rfl (hr := (by first | exact rdp | exact (RdS.ownZ 1 rfl)))) ?_
  refine AK.val (.int .i32 (R.getD (fr - 1) 0)) (Yl.valE (Yl.loadI on21 rfl rdp (by omega)) (congrArg (fun i => Value.int .i32 (R.getD i 0)) (by omega))) trivial rfl ?_
  refine .as rfl (.nt hK3 ?_)
  refine .seq fun _ hK5 => ?_
  refine .sr fun _ hK6 => ?_
  refine .mv rfl (.as rfl (.nt hK6 (.block ?_)))
  refine AK.loopK (X := Nat × List Int × Nat) [(1, _), (3, _), (4, _)] (fun x => [(9, .int .i32 (x.2.2 : Int)), (10, .int .i64 (x.1 : Int))]) (fun x => [box bt 91 2 [vl, vs], rowZ vl 5 T.length (T.map byv), row vs 21 1 T.length (x.2.1.map (Value.int .i32)), box bx4 62 2 [v, .pointer (some ⟨bf, 0, none⟩)]]) (fun x => RdI3 N T R fr x.1 x.2.1 (x.2.2 : Int)) (fun x => T.length - x.1) ((fr, R, t0)) slr ?_ ?_ ?_ ?_
  ·exact hI0
  ·exact .cons (slI rfl (by exact ht0)) (slr)
  ·exact fun w hw => hw
  ·intro x hg0 _ hK7
   have hI := hg0
   have hkl := hI.kl
   have hxlen := hI.len
   have htN : x.2.2 < N.length := by obtain ⟨t, h1, h2⟩ := hI.st.nat; omega
   refine .seq fun _ hK8 => ?_
   refine .sr fun _ hK9 => ?_
   refine .mv rfl (.mv rfl ?_)
   refine .v (.nilCheck rfl) ?_
   refine .v (.fieldAddr fd91_0 rfl) ?_
   refine .v (.loadBox on78 rfl bsp rfl) ?_
   refine .v (.lenR sl78 rfl (by first | exact rdp | exact (RdS.ownZ 1 rfl))) ?_
   refine .v (.lss rfl rfl) ?_
   refine .nt hK9 ?_
   refine AK.condD rfl (fun hc1 => ?_) (fun hc1 => ?_)
   ·have hk : x.1 < T.length := by omega
    obtain ⟨c, hc6, hcl, hcn⟩ := ltr_of (hT x.1 hk)
    have hy := hF.step hk hI.st hc6 hcl
    obtain ⟨t2, ht2, ht2N⟩ := At.nat hy
    refine .skip ?_
    refine AK.then_ (hK8 _ ?_)
    refine .seq fun _ hK10 => ?_
    refine .block ?_
    refine .seq fun _ hK11 => ?_
    refine AK.quiet mixed krf ?_
    refine .v (.fieldAddr fd62_1 rfl) ?_
    refine .v (.loadBox on60 rfl bsp rfl) ?_
    refine .v (.nilCheck rfl) ?_
    refine .v (.fieldAddr fd72_0 rfl) ?_
    refine .v (.loadBox on69 rfl bsp rfl) ?_
    refine .mv rfl (.mv rfl ?_)
    refine .v (.nilCheck rfl) ?_
    refine .v (.fieldAddr fd91_0 rfl) ?_
    refine .v (.loadBox on78 rfl bsp rfl) ?_
    refine .mv rfl ?_
    first | refine .v (.iN sl78 rfl rfl (hr := (by first | exact rdp | exact (RdS.ownZ 1 rfl)))) ?_ | refine .v (.iK sl78 rfl rfl (hr := (by first | exact rdp | exact (RdS.ownZ 1 rfl)))) ?_
    refine .v (.loadBy on5 rfl (by first | exact rdp | exact (RdS.ownZ 1 rfl)) (by omega)) ?_
    refine QK.val (.int .u8 (c : Int)) (Yl.valE (Yl.subU8 rfl rfl (by rw [hcn]; omega)) (congrArg (Value.int .u8) hcn)) trivial rfl ?_
    first | refine .v (.iN sl69 rfl rfl (hr := (by first | exact rdp | exact (RdS.ownZ 1 rfl)))) ?_ | refine .v (.iK sl69 rfl rfl (hr := (by first | exact rdp | exact (RdS.ownZ 1 rfl)))) ?_
    refine .v (.idxArrR ar73 rfl rfl (by omega)) ?_
    refine QK.val (.int .i32 (fl.getD (x.2.2 * 6 + c) 0)) (Yl.loadAt on21 rfl rdp (at6 (by omega) (by omega))) trivial rfl ?_
    refine .as rfl ?_
    refine QK.nil (QK.fin ?_)
    refine AK.then_ (hK11 _ ?_)
    refine .seq fun _ hK12 => ?_
    refine .sr fun _ hK13 => ?_
    refine .mv rfl (.mv rfl ?_)
    refine .v (.geq rfl rfl) ?_
    refine .mv rfl ?_
    refine AK.splitB (g := 51) rfl (fun hg_8_3 => ?_) (fun hg_8_3 => ?_)
    ·have hg_8_3' := hg_8_3
     try simp only [bs] at hg_8_3'
     refine AK.val _ (Yl.move rfl) ⟨_, rfl, congrArg (fun b => some (Value.bool b)) hg_8_3⟩ rfl ?_
     refine AK.val _ (Yl.nilCheck rfl) ⟨_, rfl, congrArg (fun b => some (Value.bool b)) hg_8_3⟩ rfl ?_
     refine AK.val _ (Yl.fieldAddr fd91_1 rfl) ⟨_, rfl, congrArg (fun b => some (Value.bool b)) hg_8_3⟩ rfl ?_
     refine AK.val _ (Yl.loadBox on70 rfl bsp rfl) ⟨_, rfl, congrArg (fun b => some (Value.bool b)) hg_8_3⟩ rfl ?_
     refine AK.val _ (Yl.move rfl) ⟨_, rfl, congrArg (fun b => some (Value.bool b)) hg_8_3⟩ rfl ?_
     first | refine AK.val _ (.iN sl70 rfl rfl (hr := (by first | exact rdp | exact (RdS.ownZ 1 rfl)))) ⟨_, rfl, congrArg (fun b => some (Value.bool b)) hg_8_3⟩ rfl ?_ | refine AK.val _ (.iK sl70 rfl rfl (hr := (by first | exact rdp | exact (RdS.ownZ 1 rfl)))) ⟨_, rfl, congrArg (fun b => some (Value.bool b)) hg_8_3⟩ rfl ?_
     refine AK.val _ (Yl.loadI on21 rfl (by first | exact rdp | exact (RdS.ownZ 1 rfl)) (by omega)) ⟨_, rfl, congrArg (fun b => some (Value.bool b)) hg_8_3⟩ rfl ?_
     refine AK.val _ (Yl.move rfl) ⟨_, rfl, congrArg (fun b => some (Value.bool b)) hg_8_3⟩ rfl ?_
     refine AK.val _ (Yl.eql rfl rfl) ⟨_, rfl, congrArg (fun b => some (Value.bool b)) hg_8_3⟩ rfl ?_
     refine .v (.pickT rfl (hg_8_3) rfl) ?_
     refine .nt hK13 ?_
     refine AK.condD rfl (fun hc2 => ?_) (fun hc2 => ?_)
     ·refine .sr fun _ hK14 => ?_
      refine .mv rfl ?_
      refine .v (.sub rfl rfl (by omega)) ?_
      refine .as rfl (.nt hK14 (.ret (.then_ret (.block_ret (.then_ret (.then_ret (.block_ret (.then_ret ?_))))))))
      refine AK.ret1 rfl rfl (fun w hw => ⟨_, _, _, ?_, rfl, Ret.ofBig0 (hw.pick [0, 1, 2] (by decide) rfl rfl)⟩)
      refine ⟨x.2.1, (x.1 : Int) - 1, hI.stop hk hy (by omega) (by simp_all) hc, hxlen, ⟨x.1, by omega, by omega, fun j hj hjT => ⟨by omega, hI.old j hj⟩⟩, rfl, rfl, rfl⟩
     ·refine .skip ?_
      refine AK.then_ (hK12 _ ?_)
      refine AK.region ?_
      refine .mv rfl ?_
      refine .v (.nilCheck rfl) ?_
      refine .v (.fieldAddr fd91_1 rfl) ?_
      refine .v (.loadBox on70 rfl bsp rfl) ?_
      refine .mv rfl (.mv rfl ?_)
      first | refine .v (.iN sl70 rfl rfl (hr := (by first | exact rdp | exact (RdS.ownZ 1 rfl)))) ?_ | refine .v (.iK sl70 rfl rfl (hr := (by first | exact rdp | exact (RdS.ownZ 1 rfl)))) ?_
      refine AK.store1e 2 rfl sz21 rfl rfl rfl rfl (by omega) (cs' := ((x.2.1.set x.1 (fl.getD (x.2.2 * 6 + c) 0)).map (Value.int .i32))) (by rw [List.map_set]) trivial ?_
      refine .nil (.block_normal ?_)
      refine AK.then_ (hK10 _ ?_)
      refine AK.region ?_
      refine .mv rfl ?_
      refine .v (.add rfl rfl (by omega)) ?_
      refine .as rfl (.nil ?_)
      refine AK.then_ (hK7 _ _ ((x.1 + 1, x.2.1.set x.1 (fl.getD (x.2.2 * 6 + c) 0), t2)) (by have := hI.next hk hy; rw [ht2] at this ⊢; exact this) (by dsimp only; omega) (.cons (slI rfl (by exact ht2)) (slr)) (fun w hw => hw))
    ·have hg_8_3' := hg_8_3
     try simp only [bs] at hg_8_3'
     refine AK.pass rfl rfl (hg_8_3) rfl ?_
     refine AK.pass rfl rfl (hg_8_3) rfl ?_
     refine AK.pass rfl rfl (hg_8_3) rfl ?_
     refine AK.pass rfl rfl (hg_8_3) rfl ?_
     refine AK.pass rfl rfl (hg_8_3) rfl ?_
     refine AK.pass rfl rfl (hg_8_3) rfl ?_
     refine AK.pass rfl rfl (hg_8_3) rfl ?_
     refine AK.pass rfl rfl (hg_8_3) rfl ?_
     refine AK.pass rfl rfl (hg_8_3) rfl ?_
     refine .v (.pickF rfl (hg_8_3) rfl) ?_
     refine .nt hK13 ?_
     refine AK.cond_f rfl (rfl) ?_
     refine .skip ?_
     refine AK.then_ (hK12 _ ?_)
     refine AK.region ?_
     refine .mv rfl ?_
     refine .v (.nilCheck rfl) ?_
     refine .v (.fieldAddr fd91_1 rfl) ?_
     refine .v (.loadBox on70 rfl bsp rfl) ?_
     refine .mv rfl (.mv rfl ?_)
     first | refine .v (.iN sl70 rfl rfl (hr := (by first | exact rdp | exact (RdS.ownZ 1 rfl)))) ?_ | refine .v (.iK sl70 rfl rfl (hr := (by first | exact rdp | exact (RdS.ownZ 1 rfl)))) ?_
     refine AK.store1e 2 rfl sz21 rfl rfl rfl rfl (by omega) (cs' := ((x.2.1.set x.1 (fl.getD (x.2.2 * 6 + c) 0)).map (Value.int .i32))) (by rw [List.map_set]) trivial ?_
     refine .nil (.block_normal ?_)
     refine AK.then_ (hK10 _ ?_)
     refine AK.region ?_
     refine .mv rfl ?_
     refine .v (.add rfl rfl (by omega)) ?_
     refine .as rfl (.nil ?_)
     refine AK.then_ (hK7 _ _ ((x.1 + 1, x.2.1.set x.1 (fl.getD (x.2.2 * 6 + c) 0), t2)) (by have := hI.next hk hy; rw [ht2] at this ⊢; exact this) (by dsimp only; omega) (.cons (slI rfl (by exact ht2)) (slr)) (fun w hw => hw))
   ·refine .exit (.then_exit (.then_exit (.block_exit ?_)))
    refine AK.then_ (hK5 _ ?_)
    refine .sr fun _ hK15 => ?_
    refine .mv rfl ?_
    refine .v (.nilCheck rfl) ?_
    refine .v (.fieldAddr fd91_0 rfl) ?_
    refine .v (.loadBox on78 rfl bsp rfl) ?_
    refine .v (.lenR sl78 rfl (by first | exact rdp | exact (RdS.ownZ 1 rfl))) ?_
    refine .v (.sub rfl rfl (by omega)) ?_
    refine .as rfl (.nt hK15 (.ret ?_))
    refine AK.ret1 rfl rfl (fun w hw => ⟨_, _, _, ?_, rfl, Ret.ofBig0 (hw.pick [0, 1, 2] (by decide) rfl rfl)⟩)
    refine ⟨x.2.1, (T.length : Int) - 1, fun j hj => hI.ok j (by omega), hxlen, ⟨T.length, by omega, by omega, fun j hj hjT => by omega⟩, rfl, rfl, rfl⟩
 ·have hfr0 : fr = 0 := by omega
  obtain ⟨t0, ht0, ht0N⟩ : ∃ t0 : Nat, (0 : Int) = (t0 : Int) ∧ t0 < N.length := ⟨0, rfl, hF.z.1⟩
  have hI0 : RdI3 N T R fr fr R (t0 : Int) := ⟨⟨Nat.le_refl _, hfr⟩, hR, by rw [hfr0, ← ht0]; exact hF.at0 T, hok, fun _ _ => rfl⟩
  refine .skip ?_
  refine AK.then_ (hK3 _ ?_)
  refine .seq fun _ hK16 => ?_
  refine .sr fun _ hK17 => ?_
  refine .mv rfl (.as rfl (.nt hK17 (.block ?_)))
  refine AK.loopK (X := Nat × List Int × Nat) [(1, _), (3, _), (4, _)] (fun x => [(9, .int .i32 (x.2.2 : Int)), (10, .int .i64 (x.1 : Int))]) (fun x => [box bt 91 2 [vl, vs], rowZ vl 5 T.length (T.map byv), row vs 21 1 T.length (x.2.1.map (Value.int .i32)), box bx4 62 2 [v, .pointer (some ⟨bf, 0, none⟩)]]) (fun x => RdI3 N T R fr x.1 x.2.1 (x.2.2 : Int)) (fun x => T.length - x.1) ((fr, R, t0)) slr ?_ ?_ ?_ ?_
  ·exact hI0
  ·exact .cons (slI rfl (by exact ht0)) (slr)
  ·exact fun w hw => hw
  ·intro x hg0 _ hK18
   have hI := hg0
   have hkl := hI.kl
   have hxlen := hI.len
   have htN : x.2.2 < N.length := by obtain ⟨t, h1, h2⟩ := hI.st.nat; omega
   refine .seq fun _ hK19 => ?_
   refine .sr fun _ hK20 => ?_
   refine .mv rfl (.mv rfl ?_)
   refine .v (.nilCheck rfl) ?_
   refine .v (.fieldAddr fd91_0 rfl) ?_
   refine .v (.loadBox on78 rfl bsp rfl) ?_
   refine .v (.lenR sl78 rfl (by first | exact rdp | exact (RdS.ownZ 1 rfl))) ?_
   refine .v (.lss rfl rfl) ?_
   refine .nt hK20 ?_
   refine AK.condD rfl (fun hc1 => ?_) (fun hc1 => ?_)
   ·have hk : x.1 < T.length := by omega
    obtain ⟨c, hc6, hcl, hcn⟩ := ltr_of (hT x.1 hk)
    have hy := hF.step hk hI.st hc6 hcl
    obtain ⟨t2, ht2, ht2N⟩ := At.nat hy
    refine .skip ?_
    refine AK.then_ (hK19 _ ?_)
    refine .seq fun _ hK21 => ?_
    refine .block ?_
    refine .seq fun _ hK22 => ?_
    refine AK.quiet mixed krf ?_
    refine .v (.fieldAddr fd62_1 rfl) ?_
    refine .v (.loadBox on60 rfl bsp rfl) ?_
    refine .v (.nilCheck rfl) ?_
    refine .v (.fieldAddr fd72_0 rfl) ?_
    refine .v (.loadBox on69 rfl bsp rfl) ?_
    refine .mv rfl (.mv rfl ?_)
    refine .v (.nilCheck rfl) ?_
    refine .v (.fieldAddr fd91_0 rfl) ?_
    refine .v (.loadBox on78 rfl bsp rfl) ?_
    refine .mv rfl ?_
    first | refine .v (.iN sl78 rfl rfl (hr := (by first | exact rdp | exact (RdS.ownZ 1 rfl)))) ?_ | refine .v (.iK sl78 rfl rfl (hr := (by first | exact rdp | exact (RdS.ownZ 1 rfl)))) ?_
    refine .v (.loadBy on5 rfl (by first | exact rdp | exact (RdS.ownZ 1 rfl)) (by omega)) ?_
    refine QK.val (.int .u8 (c : Int)) (Yl.valE (Yl.subU8 rfl rfl (by rw [hcn]; omega)) (congrArg (Value.int .u8) hcn)) trivial rfl ?_
    first | refine .v (.iN sl69 rfl rfl (hr := (by first | exact rdp | exact (RdS.ownZ 1 rfl)))) ?_ | refine .v (.iK sl69 rfl rfl (hr := (by first | exact rdp | exact (RdS.ownZ 1 rfl)))) ?_
    refine .v (.idxArrR ar73 rfl rfl (by omega)) ?_
    refine QK.val (.int .i32 (fl.getD (x.2.2 * 6 + c) 0)) (Yl.loadAt on21 rfl rdp (at6 (by omega) (by omega))) trivial rfl ?_
    refine .as rfl ?_
    refine QK.nil (QK.fin ?_)
    refine AK.then_ (hK22 _ ?_)
    refine .seq fun _ hK23 => ?_
    refine .sr fun _ hK24 => ?_
    refine .mv rfl (.mv rfl ?_)
    refine .v (.geq rfl rfl) ?_
    refine .mv rfl ?_
    refine AK.splitB (g := 51) rfl (fun hg_8_3 => ?_) (fun hg_8_3 => ?_)
    ·have hg_8_3' := hg_8_3
     try simp only [bs] at hg_8_3'
     refine AK.val _ (Yl.move rfl) ⟨_, rfl, congrArg (fun b => some (Value.bool b)) hg_8_3⟩ rfl ?_
     refine AK.val _ (Yl.nilCheck rfl) ⟨_, rfl, congrArg (fun b => some (Value.bool b)) hg_8_3⟩ rfl ?_
     refine AK.val _ (Yl.fieldAddr fd91_1 rfl) ⟨_, rfl, congrArg (fun b => some (Value.bool b)) hg_8_3⟩ rfl ?_
     refine AK.val _ (Yl.loadBox on70 rfl bsp rfl) ⟨_, rfl, congrArg (fun b => some (Value.bool b)) hg_8_3⟩ rfl ?_
     refine AK.val _ (Yl.move rfl) ⟨_, rfl, congrArg (fun b => some (Value.bool b)) hg_8_3⟩ rfl ?_
     first | refine AK.val _ (.iN sl70 rfl rfl (hr := (by first | exact rdp | exact (RdS.ownZ 1 rfl)))) ⟨_, rfl, congrArg (fun b => some (Value.bool b)) hg_8_3⟩ rfl ?_ | refine AK.val _ (.iK sl70 rfl rfl (hr := (by first | exact rdp | exact (RdS.ownZ 1 rfl)))) ⟨_, rfl, congrArg (fun b => some (Value.bool b)) hg_8_3⟩ rfl ?_
     refine AK.val _ (Yl.loadI on21 rfl (by first | exact rdp | exact (RdS.ownZ 1 rfl)) (by omega)) ⟨_, rfl, congrArg (fun b => some (Value.bool b)) hg_8_3⟩ rfl ?_
     refine AK.val _ (Yl.move rfl) ⟨_, rfl, congrArg (fun b => some (Value.bool b)) hg_8_3⟩ rfl ?_
     refine AK.val _ (Yl.eql rfl rfl) ⟨_, rfl, congrArg (fun b => some (Value.bool b)) hg_8_3⟩ rfl ?_
     refine .v (.pickT rfl (hg_8_3) rfl) ?_
     refine .nt hK24 ?_
     refine AK.condD rfl (fun hc2 => ?_) (fun hc2 => ?_)
     ·refine .sr fun _ hK25 => ?_
      refine .mv rfl ?_
      refine .v (.sub rfl rfl (by omega)) ?_
      refine .as rfl (.nt hK25 (.ret (.then_ret (.block_ret (.then_ret (.then_ret (.block_ret (.then_ret ?_))))))))
      refine AK.ret1 rfl rfl (fun w hw => ⟨_, _, _, ?_, rfl, Ret.ofBig0 (hw.pick [0, 1, 2] (by decide) rfl rfl)⟩)
      refine ⟨x.2.1, (x.1 : Int) - 1, hI.stop hk hy (by omega) (by simp_all) hc, hxlen, ⟨x.1, by omega, by omega, fun j hj hjT => ⟨by omega, hI.old j hj⟩⟩, rfl, rfl, rfl⟩
     ·refine .skip ?_
      refine AK.then_ (hK23 _ ?_)
      refine AK.region ?_
      refine .mv rfl ?_
      refine .v (.nilCheck rfl) ?_
      refine .v (.fieldAddr fd91_1 rfl) ?_
      refine .v (.loadBox on70 rfl bsp rfl) ?_
      refine .mv rfl (.mv rfl ?_)
      first | refine .v (.iN sl70 rfl rfl (hr := (by first | exact rdp | exact (RdS.ownZ 1 rfl)))) ?_ | refine .v (.iK sl70 rfl rfl (hr := (by first | exact rdp | exact (RdS.ownZ 1 rfl)))) ?_
      refine AK.store1e 2 rfl sz21 rfl rfl rfl rfl (by omega) (cs' := ((x.2.1.set x.1 (fl.getD (x.2.2 * 6 + c) 0)).map (Value.int .i32))) (by rw [List.map_set]) trivial ?_
      refine .nil (.block_normal ?_)
      refine AK.then_ (hK21 _ ?_)
      refine AK.region ?_
      refine .mv rfl ?_
      refine .v (.add rfl rfl (by omega)) ?_
      refine .as rfl (.nil ?_)
      refine AK.then_ (hK18 _ _ ((x.1 + 1, x.2.1.set x.1 (fl.getD (x.2.2 * 6 + c) 0), t2)) (by have := hI.next hk hy; rw [ht2] at this ⊢; exact this) (by dsimp only; omega) (.cons (slI rfl (by exact ht2)) (slr)) (fun w hw => hw))
    ·have hg_8_3' := hg_8_3
     try simp only [bs] at hg_8_3'
     refine AK.pass rfl rfl (hg_8_3) rfl ?_
     refine AK.pass rfl rfl (hg_8_3) rfl ?_
     refine AK.pass rfl rfl (hg_8_3) rfl ?_
     refine AK.pass rfl rfl (hg_8_3) rfl ?_
     refine AK.pass rfl rfl (hg_8_3) rfl ?_
     refine AK.pass rfl rfl (hg_8_3) rfl ?_
     refine AK.pass rfl rfl (hg_8_3) rfl ?_
     refine AK.pass rfl rfl (hg_8_3) rfl ?_
     refine AK.pass rfl rfl (hg_8_3) rfl ?_
     refine .v (.pickF rfl (hg_8_3) rfl) ?_
     refine .nt hK24 ?_
     refine AK.cond_f rfl (rfl) ?_
     refine .skip ?_
     refine AK.then_ (hK23 _ ?_)
     refine AK.region ?_
     refine .mv rfl ?_
     refine .v (.nilCheck rfl) ?_
     refine .v (.fieldAddr fd91_1 rfl) ?_
     refine .v (.loadBox on70 rfl bsp rfl) ?_
     refine .mv rfl (.mv rfl ?_)
     first | refine .v (.iN sl70 rfl rfl (hr := (by first | exact rdp | exact (RdS.ownZ 1 rfl)))) ?_ | refine .v (.iK sl70 rfl rfl (hr := (by first | exact rdp | exact (RdS.ownZ 1 rfl)))) ?_
     refine AK.store1e 2 rfl sz21 rfl rfl rfl rfl (by omega) (cs' := ((x.2.1.set x.1 (fl.getD (x.2.2 * 6 + c) 0)).map (Value.int .i32))) (by rw [List.map_set]) trivial ?_
     refine .nil (.block_normal ?_)
     refine AK.then_ (hK21 _ ?_)
     refine AK.region ?_
     refine .mv rfl ?_
     refine .v (.add rfl rfl (by omega)) ?_
     refine .as rfl (.nil ?_)
     refine AK.then_ (hK18 _ _ ((x.1 + 1, x.2.1.set x.1 (fl.getD (x.2.2 * 6 + c) 0), t2)) (by have := hI.next hk hy; rw [ht2] at this ⊢; exact this) (by dsimp only; omega) (.cons (slI rfl (by exact ht2)) (slr)) (fun w hw => hw))
   ·refine .exit (.then_exit (.then_exit (.block_exit ?_)))
    refine AK.then_ (hK16 _ ?_)
    refine .sr fun _ hK26 => ?_
    refine .mv rfl ?_
    refine .v (.nilCheck rfl) ?_
    refine .v (.fieldAddr fd91_0 rfl) ?_
    refine .v (.loadBox on78 rfl bsp rfl) ?_
    refine .v (.lenR sl78 rfl (by first | exact rdp | exact (RdS.ownZ 1 rfl))) ?_
    refine .v (.sub rfl rfl (by omega)) ?_
    refine .as rfl (.nt hK26 (.ret ?_))
    refine AK.ret1 rfl rfl (fun w hw => ⟨_, _, _, ?_, rfl, Ret.ofBig0 (hw.pick [0, 1, 2] (by decide) rfl rfl)⟩)
    refine ⟨x.2.1, (T.length : Int) - 1, fun j hj => hI.ok j (by omega), hxlen, ⟨T.length, by omega, by omega, fun j hj hjT => by omega⟩, rfl, rfl, rfl⟩

end Go.Proofs.Ytaeojcaidcjnaaa
