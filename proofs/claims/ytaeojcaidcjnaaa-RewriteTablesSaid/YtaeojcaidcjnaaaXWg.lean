import Derived.Test.YtaeojcaidcjnaaaXWf
import Derived.Test.YtaeojcaidcjnaaaXRR
set_option linter.unusedVariables false
set_option linter.unusedSimpArgs false
namespace Go.Proofs.Ytaeojcaidcjnaaa
open Go.Sx Go.RowKit
set_option maxHeartbeats 1600000 in
set_option maxRecDepth 100000 in
theorem s_crit (w : World) (F : Nat → Prop) (b1 : Nat) (v : Value) (rs : List Rul) (hbx : BxA w b1 [v]) (nb1 : ¬ F b1) (h : Rd (fun b => ¬ F b) w v 2 rs.length (rlc rs)) (L : Int) (hV : VR L rs) (l : Nat) (J Jx : List Crit → Asn) (hY : YC Try.prog l cv (fun q => q <+: crA rs) J Jx w F) (hX : MxA w) (hX0 : ¬ F 0) (hA : (J []).holds w F) : CallM Try.prog 62 [.func (.yield l) #[] #[], .pointer (some ⟨b1, 0, none⟩)] w F (fun r A o => o = [] ∧ ((∃ xs, xs = crA rs ∧ A = J xs) ∨ (∃ q, (q <+: crA rs ∧ q ≠ []) ∧ A = Jx q))) := by
 have hll : ∀ k, k < rs.length → (rs.getD k ([], [])).1.length ≤ 2048 ∧ (rs.getD k ([], [])).2.length ≤ 2048 := fun k hk => by have h := hV.v _ (getD_mem (d := ([], [])) hk); exact ⟨(validW_al h.1).1, (validW_al h.2.1).1⟩
 have hrn := hV.n
 have sv0 := Rd.sl h
 refine specM_of Try.func62 rfl (Nat.le_of_ble_eq_true rfl) hA ?_
 refine .sr fun _ hK1 => ?_
 refine .v (.loadBox on22 rfl bsp rfl) ?_
 refine .v (.lenR sl22 rfl rdp) ?_
 refine .mv rfl (.nt hK1 (.block ?_))
 refine AK.loopK (X := Nat) [(0, _), (1, _), (7, _), (8, _)] (fun i => [(9, .int .i64 (i : Int))]) (fun i => [J (crI rs i)]) (fun i => i ≤ rs.length) (fun i => rs.length - i) (0) slr ?_ ?_ ?_ ?_
 ·exact Nat.zero_le _
 ·exact slr
 ·exact fun w hw => hw
 ·intro i hg0 _ hK2
  refine .sr fun _ hK3 => ?_
  refine .v (.lss rfl rfl) ?_
  refine .nt hK3 ?_
  refine .seq fun _ hK4 => ?_
  refine AK.condD rfl (fun hc0 => ?_) (fun hc0 => ?_)
  ·refine .skip ?_
   refine AK.then_ (hK4 _ ?_)
   refine .seq fun _ hK5 => ?_
   refine .block ?_
   refine .sr fun _ hK6 => ?_
   refine .mv rfl ?_
   first | refine .v (.iN sl22 rfl rfl) ?_ | refine .v (.iK sl22 rfl rfl) ?_
   refine .v (.loadRu ag41 rfl rdp (by omega)) ?_
   refine AK.alloc el41 rfl rfl trivial rfl (fun bx4 => ?_)
   refine .as rfl ?_
   refine AK.storeBox 1 (us := rcs (rs.getD i ([], []))) (cs' := rcs (rs.getD i ([], []))) rfl sz41 rfl rfl rfl rfl oneP (Nat.le_of_ble_eq_true rfl) rfl trivial ?_
   refine .nt hK6 ?_
   refine .sr fun _ hK7 => ?_
   refine .v (.loadBox on22 rfl bsp rfl) ?_
   refine .v (.lenR sl22 rfl rdp) ?_
   refine .mv rfl (.nt hK7 (.block ?_))
   refine AK.loopK (X := Nat) [(0, _), (1, _), (3, _), (4, _), (7, _), (8, _), (9, _), (14, _), (15, _)] (fun j => [(16, .int .i64 (j : Int))]) (fun j => [J (crI rs i ++ crJ rs i j), box bx4 41 2 (rcs (rs.getD i ([], [])))]) (fun j => j ≤ rs.length) (fun j => rs.length - j) (0) slr ?_ ?_ ?_ ?_
   ·exact Nat.zero_le _
   ·exact slr
   ·exact fun w hw => by rw [show crJ rs i 0 = [] from rfl, List.append_nil]; exact hw
   ·intro j hg1 _ hK8
    refine .sr fun _ hK9 => ?_
    refine .v (.lss rfl rfl) ?_
    refine .nt hK9 ?_
    refine .seq fun _ hK10 => ?_
    refine AK.condD rfl (fun hc1 => ?_) (fun hc1 => ?_)
    ·refine .skip ?_
     refine AK.then_ (hK10 _ ?_)
     refine .seq fun _ hK11 => ?_
     refine .block ?_
     refine .sr fun _ hK12 => ?_
     refine .mv rfl ?_
     first | refine .v (.iN sl22 rfl rfl) ?_ | refine .v (.iK sl22 rfl rfl) ?_
     refine .v (.loadRu ag41 rfl rdp (by omega)) ?_
     refine AK.alloc el41 rfl rfl trivial rfl (fun bx6 => ?_)
     refine .as rfl ?_
     refine AK.storeBox 2 (us := rcs (rs.getD j ([], []))) (cs' := rcs (rs.getD j ([], []))) rfl sz41 rfl rfl rfl rfl oneP (Nat.le_of_ble_eq_true rfl) rfl trivial ?_
     refine .nt hK12 ?_
     refine .seq fun _ hK13 => ?_
     refine .sr fun _ hK14 => ?_
     refine .v (.loadBoxG ag41 rfl bsp rfl rfl) ?_
     refine .v (.loadBoxG ag41 rfl bsp rfl rfl) ?_
     refine .mv rfl ?_
     refine AK.callN 0 rfl co63 rfl (fun w Fs hw hh hfr hal => s_overlaps w (Fs 0) (rs.getD i ([], [])) (rs.getD j ([], [])) (hll i (by omega)) (hll j (by omega)) l _ J Jx _ (hY.later hfr (hal 0)) (fun q hq => cr_pre1 (by omega) (by omega) hq) (hh.at_ 0 _ rfl)) trivial rfl ?_
     rintro r A o ⟨ok, rfl, rfl, ⟨rfl, rfl⟩ | ⟨rfl, q, hq, hq0, rfl⟩⟩
     ·skip
      refine .v (.not rfl) ?_
      refine .nt hK14 ?_
      refine AK.cond_f rfl (rfl) ?_
      refine .skip ?_
      refine AK.then_ (hK13 _ ?_)
      refine .sr fun _ hK15 => ?_
      refine .mv rfl (.mv rfl ?_)
      refine .v (.neq rfl rfl) ?_
      refine .mv rfl ?_
      refine AK.splitB (g := 29) rfl (fun hg_7_3 => ?_) (fun hg_7_3 => ?_)
      ·have hg_7_3' := hg_7_3
       try simp only [bs] at hg_7_3'
       refine AK.val _ (Yl.loadBoxG ag41 rfl bsp rfl rfl) ⟨_, rfl, congrArg (fun b => some (Value.bool b)) hg_7_3⟩ rfl ?_
       refine AK.val _ (Yl.loadBoxG ag41 rfl bsp rfl rfl) ⟨_, rfl, congrArg (fun b => some (Value.bool b)) hg_7_3⟩ rfl ?_
       refine AK.val _ (Yl.move rfl) ⟨_, rfl, congrArg (fun b => some (Value.bool b)) hg_7_3⟩ rfl ?_
       have hij : i ≠ j := by
        intro e
        exact hg_7_3' (by rw [e])
       refine AK.callN 0 rfl co64 rfl (fun w Fs hw hh hfr hal => s_contained w (Fs 0) (rs.getD i ([], [])) (rs.getD j ([], [])) (hll i (by omega)) (hll j (by omega)) (hV.left (by omega)).1 l _ J Jx _ (hY.later hfr (hal 0)) (hX.off2 hX0 hfr) (not_F0 hX hX0 hal) (fun q hq => cr_pre2 (by omega) (by omega) hij hq) (hh.at_ 0 _ rfl)) ⟨_, rfl, congrArg (fun b => some (Value.bool b)) hg_7_3⟩ rfl ?_
       rintro r A o ⟨ok, rfl, rfl, ⟨rfl, rfl⟩ | ⟨rfl, q2, hq2, hq20, rfl⟩⟩
       ·skip
        refine AK.val _ (Yl.not rfl) ⟨_, rfl, congrArg (fun b => some (Value.bool b)) hg_7_3⟩ rfl ?_
        refine .v (.pickT rfl (hg_7_3) rfl) ?_
        refine .nt hK15 ?_
        refine AK.cond_f rfl (rfl) ?_
        refine .skip (.block_normal ?_)
        refine AK.then_ (hK11 _ ?_)
        refine AK.region ?_
        refine .v (.add rfl rfl (by omega)) ?_
        refine .mv rfl (.nil ?_)
        first | refine AK.then_ (hK8 _ _ (j + 1) (by omega) (by omega) (slr) (fun w hw => by rw [crJ_ne hij, ← List.append_assoc, ← List.append_assoc]; exact hw.pick [0, 1] (by decide) rfl rfl)) | refine AK.then_ (hK8 _ _ (j + 1) (by omega) (by omega) (slr) (fun w hw => by have e : i = j := (by omega); subst e; rw [crJ_eq, ← List.append_assoc]; exact hw.pick [0, 1] (by decide) rfl rfl))
       ·skip
        refine AK.val _ (Yl.not rfl) ⟨_, rfl, congrArg (fun b => some (Value.bool b)) hg_7_3⟩ rfl ?_
        refine .v (.pickT rfl (hg_7_3) rfl) ?_
        refine .nt hK15 ?_
        refine AK.cond_t rfl (rfl) ?_
        refine .ret (.block_ret (.then_ret (.then_ret (.block_ret (.block_ret (.then_ret (.then_ret (.block_ret ?_))))))))
        refine AK.retG [] rfl (.nil) (fun w hw => ⟨_, _, _, ?_, rfl, Ret.of (hw.pick [0] (by decide) rfl rfl)⟩)
        exact ⟨rfl, .inr ⟨_, ⟨cr_pre2 (by omega) (by omega) hij hq2, by simp [hq20]⟩, rfl⟩⟩
      ·have hg_7_3' := hg_7_3
       try simp only [bs] at hg_7_3'
       refine AK.pass rfl rfl (hg_7_3) rfl ?_
       refine AK.pass rfl rfl (hg_7_3) rfl ?_
       refine AK.pass rfl rfl (hg_7_3) rfl ?_
       refine AK.pass rfl rfl (hg_7_3) rfl ?_
       refine AK.pass rfl rfl (hg_7_3) rfl ?_
       refine .v (.pickF rfl (hg_7_3) rfl) ?_
       refine .nt hK15 ?_
       refine AK.cond_f rfl (rfl) ?_
       refine .skip (.block_normal ?_)
       refine AK.then_ (hK11 _ ?_)
       refine AK.region ?_
       refine .v (.add rfl rfl (by omega)) ?_
       refine .mv rfl (.nil ?_)
       first | refine AK.then_ (hK8 _ _ (j + 1) (by omega) (by omega) (slr) (fun w hw => by rw [crJ_ne hij, ← List.append_assoc, ← List.append_assoc]; exact hw.pick [0, 1] (by decide) rfl rfl)) | refine AK.then_ (hK8 _ _ (j + 1) (by omega) (by omega) (slr) (fun w hw => by have e : i = j := (by omega); subst e; rw [crJ_eq, ← List.append_assoc]; exact hw.pick [0, 1] (by decide) rfl rfl))
     ·skip
      refine .v (.not rfl) ?_
      refine .nt hK14 ?_
      refine AK.cond_t rfl (rfl) ?_
      refine .ret (.then_ret (.block_ret (.then_ret (.then_ret (.block_ret (.block_ret (.then_ret (.then_ret (.block_ret ?_)))))))))
      refine AK.retG [] rfl (.nil) (fun w hw => ⟨_, _, _, ?_, rfl, Ret.of (hw.pick [0] (by decide) rfl rfl)⟩)
      exact ⟨rfl, .inr ⟨_, ⟨cr_pre1 (by omega) (by omega) hq, by simp [hq0]⟩, rfl⟩⟩
    ·refine .exit (.then_exit (.then_exit (.block_exit (.block_normal ?_))))
     refine AK.then_ (hK5 _ ?_)
     refine AK.region ?_
     refine .v (.add rfl rfl (by omega)) ?_
     refine .mv rfl (.nil ?_)
     refine AK.then_ (hK2 _ _ (i + 1) (by omega) (by omega) (slr) (fun w hw => by have e : j = rs.length := (by omega); rw [e] at hw; exact hw.pick [0] (by decide) rfl rfl))
  ·refine .exit (.then_exit (.then_exit (.block_exit ?_)))
   refine AK.endG [] rfl (.nil) (fun w hw => ⟨_, _, _, ?_, rfl, Ret.of (hw.pick [0] (by decide) rfl rfl)⟩)
   exact ⟨rfl, .inl ⟨_, rfl, by rw [show i = rs.length by omega]; rfl⟩⟩

set_option maxRecDepth 100000 in
theorem s_critical (w : World) (v : Value) (sv0 : IsSl v) : CallS Try.prog 45 [v] w (fun r o => ∃ b1 : Nat, r = .func (.func 62) #[] #[.pointer (some ⟨b1, 0, none⟩)] ∧ o = [box b1 22 1 [v]]) := by
 refine spec_of Try.func45 rfl (Nat.le_of_ble_eq_true rfl) ?_
 refine .sr fun _ hK1 => ?_
 refine AK.box_ (E := 22) (cs := [v]) rfl (by rw [sv0.cells]) rfl trivial rfl (fun bx1 => ?_)
 refine .as rfl (.nt hK1 ?_)
 refine .sr fun _ hK2 => ?_
 refine .v (.makeFunc (first := []) (captured := [.tmp 1]) rfl rfl) ?_
 refine .as rfl (.nt hK2 (.ret ?_))
 refine AK.ret1 rfl rfl (fun w hw => ⟨_, _, ?_, rfl, Ret.of (hw.pick [0] (by decide) rfl rfl)⟩)
 exact ⟨bx1, rfl, rfl⟩

end Go.Proofs.Ytaeojcaidcjnaaa
