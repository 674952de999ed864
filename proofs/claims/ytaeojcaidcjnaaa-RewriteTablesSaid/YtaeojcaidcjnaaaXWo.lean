import Derived.Test.YtaeojcaidcjnaaaXWn
import Derived.Test.YtaeojcaidcjnaaaXWe
set_option linter.unusedVariables false
set_option linter.unusedSimpArgs false
namespace Go.Proofs.Ytaeojcaidcjnaaa
open Go.Sx Go.RowKit
set_option maxRecDepth 100000 in
theorem s_tablebad (w : World) (v : Value) (rs : List Rul) (h : RdR (fun _ => False) w v rs) (hll : ∀ k, k < rs.length → (rs.getD k ([], [])).1.length ≤ 9223372036854775807 ∧ (rs.getD k ([], [])).2.length ≤ 9223372036854775807) (L : Int) (mon : Bool) (hne : errR L rs ≠ 0) : CallS Try.prog 31 [v, .int .i64 L, .bool mon] w (fun r o => r = .tuple #[.slice none 0 0, .slice none 0 0, .int .i64 (errR L rs)] ∧ o = []) := by
 have h0 := h
 have hb := h.len
 have sv0 := Rd.sl h
 unfold RdR at h
 refine spec_of Try.func31 rfl (Nat.le_of_ble_eq_true rfl) ?_
 refine .sr fun _ hK1 => ?_
 refine .as rfl (.as rfl (.as rfl (.nt hK1 ?_)))
 refine .seq fun _ hK2 => ?_
 refine .sr fun _ hK3 => ?_
 refine .mv rfl (.mv rfl ?_)
 refine AK.call co13 rfl (fun w hw => s_rval w v rs (h0.at hw) hll L) trivial rfl ?_
 rintro r o ⟨rfl, rfl⟩
 refine .as rfl (.nt hK3 ?_)
 refine .sr fun _ hK4 => ?_
 refine .mv rfl ?_
 refine .v (.neq rfl rfl) ?_
 refine .nt hK4 ?_
 refine AK.cond_t rfl (decide_eq_true hne) ?_
 refine .sr fun _ hK5 => ?_
 refine .mv rfl (.as rfl (.as rfl (.as rfl (.nt hK5 (.ret (.then_ret ?_))))))
 refine AK.retG [.tmp 6, .tmp 7, .tmp 8] rfl (.cons (.tmp rfl) (.cons (.tmp rfl) (.cons (.tmp rfl) (.nil)))) (fun w hw => ⟨_, _, ?_, rfl, Ret.of (hw.pick [] (by decide) rfl rfl)⟩)
 exact ⟨rfl, rfl⟩

set_option maxHeartbeats 2000000 in
set_option maxRecDepth 100000 in
theorem s_table (w : World) (v : Value) (rs : List Rul) (h : RdR (fun _ => False) w v rs) (hll : ∀ k, k < rs.length → (rs.getD k ([], [])).1.length ≤ 9223372036854775807 ∧ (rs.getD k ([], [])).2.length ≤ 9223372036854775807) (L : Int) (mon : Bool) (hX : MxA w) (hE : errR L rs = 0) (ht : tot (lfs rs) rs.length ≤ 511) : CallS Try.prog 31 [v, .int .i64 L, .bool mon] w (fun r o => ∃ (e : Int) (vs : List Wrd) (t : List (List Int)) (q1 q2 : Value) (rvs : List Value), TblP L rs mon e vs t ∧ r = .tuple #[q1, q2, .int .i64 e] ∧ IsSl q1 ∧ IsSl q2 ∧ rvs.length = t.length ∧ o = [row q1 74 1 t.length rvs, bigA (matG (Value.int .i64) 3 rvs t), view q2 1 vs.length (vs.map sv)]) := by
 have h0 := h
 have hb := h.len
 have sv0 := Rd.sl h
 unfold RdR at h
 have hV := errR_iff.1 hE
 have hV6 := vr6 hV
 have hE6 := errR_iff.2 hV6
 have hrn := hV.n
 have hLL := hV.l
 have hCf : CfR rs = cfR rs (crA rs) := if_neg (by omega)
 refine spec_of Try.func31 rfl (Nat.le_of_ble_eq_true rfl) ?_
 refine .sr fun _ hK1 => ?_
 refine .as rfl (.as rfl (.as rfl (.nt hK1 ?_)))
 refine .seq fun _ hK2 => ?_
 refine .sr fun _ hK3 => ?_
 refine .mv rfl (.mv rfl ?_)
 refine AK.call co13 rfl (fun w hw => s_rval w v rs (h0.at hw) hll L) trivial rfl ?_
 rintro r o ⟨rfl, rfl⟩
 refine .as rfl (.nt hK3 ?_)
 refine .sr fun _ hK4 => ?_
 refine .mv rfl ?_
 refine .v (.neq rfl rfl) ?_
 refine .nt hK4 ?_
 refine AK.cond_f rfl (decide_eq_false (by omega)) ?_
 refine .skip ?_
 refine AK.then_ (hK2 _ ?_)
 refine .seq fun _ hK5 => ?_
 refine .sr fun _ hK6 => ?_
 refine .mv rfl ?_
 refine .v (.lenR sl22 rfl rdp) ?_
 refine .mv rfl (.nt hK6 (.block ?_))
 refine AK.loopK (X := Nat) [(0, _), (1, _), (2, _), (24, _), (25, _)] (fun k => [(26, .int .i64 (k : Int))]) (fun k => []) (fun k => k ≤ rs.length ∧ (mon = false → NoE rs k)) (fun k => rs.length - k) (0) slr ?_ ?_ ?_ ?_
 ·exact ⟨Nat.zero_le _, fun _ j hj => by omega⟩
 ·exact slr
 ·exact fun w hw => hw
 ·intro k hg0 _ hK7
  refine .sr fun _ hK8 => ?_
  refine .v (.lss rfl rfl) ?_
  refine .nt hK8 ?_
  refine .seq fun _ hK9 => ?_
  refine AK.condD rfl (fun hc1 => ?_) (fun hc1 => ?_)
  ·refine .skip ?_
   refine AK.then_ (hK9 _ ?_)
   refine .seq fun _ hK10 => ?_
   refine .block ?_
   refine .sr fun _ hK11 => ?_
   first | refine .v (.iN sl22 rfl rfl) ?_ | refine .v (.iK sl22 rfl rfl) ?_
   refine .v (.loadRu ag41 rfl rdp (by omega)) ?_
   refine AK.alloc el41 rfl rfl trivial rfl (fun bx11 => ?_)
   refine AK.storeBox 0 (us := rcs (rs.getD k ([], []))) (cs' := rcs (rs.getD k ([], []))) rfl sz41 rfl rfl rfl rfl oneP (Nat.le_of_ble_eq_true rfl) rfl trivial ?_
   refine .nt hK11 ?_
   refine .sr fun _ hK12 => ?_
   refine .mv rfl ?_
   refine .v (.not rfl) ?_
   refine .mv rfl ?_
   refine AK.splitB (g := 32) rfl (fun hg_7_2 => ?_) (fun hg_7_2 => ?_)
   ·have hg_7_2' := hg_7_2
    try simp only [bs] at hg_7_2'
    refine AK.val _ (Yl.fieldAddr fd41_1 rfl) ⟨_, rfl, congrArg (fun b => some (Value.bool b)) hg_7_2⟩ rfl ?_
    refine AK.val _ (Yl.loadBox on9 rfl bsp rfl) ⟨_, rfl, congrArg (fun b => some (Value.bool b)) hg_7_2⟩ rfl ?_
    refine AK.val _ (Yl.eqlS un9 rfl rfl) ⟨_, rfl, congrArg (fun b => some (Value.bool b)) hg_7_2⟩ rfl ?_
    refine .v (.pickT rfl (hg_7_2) rfl) ?_
    refine .nt hK12 ?_
    refine AK.condD rfl (fun hc2 => ?_) (fun hc2 => ?_)
    ·refine .sr fun _ hK13 => ?_
     refine .as rfl (.as rfl (.as rfl (.nt hK13 (.ret (.block_ret (.then_ret (.then_ret (.block_ret (.then_ret ?_)))))))))
     refine AK.own' _ (fun w hw => ((hw.ghost 74 1).ghostG (f := Value.int .i64) 3).viewNil) ?_
     refine AK.retG [.tmp 6, .tmp 7, .tmp 8] rfl (.cons (.tmp rfl) (.cons (.tmp rfl) (.cons (.tmp rfl) (.nil)))) (fun w hw => ⟨_, _, ?_, rfl, Ret.of (hw.pick [1, 2, 3] (by decide) rfl rfl)⟩)
     exact ⟨6, [], [], .slice none 0 0, .slice none 0 0, [], .inl ⟨noE_ex (k := k) (by omega) hg_7_2' (by assumption), rfl, rfl, rfl⟩, rfl, nilSl, nilSl, rfl, rfl⟩
    ·refine .skip (.block_normal ?_)
     refine AK.then_ (hK10 _ ?_)
     refine AK.region ?_
     refine .v (.add rfl rfl (by omega)) ?_
     refine .mv rfl (.nil ?_)
     first | refine AK.then_ (hK7 _ _ (k + 1) ⟨by omega, fun hm => ext_lt (hg0.2 hm) (by assumption)⟩ (by omega) (slr) (fun w hw => hw.pick [] (by decide) rfl rfl)) | refine AK.then_ (hK7 _ _ (k + 1) ⟨by omega, fun hm => absurd hm (by simpa using hg_7_2)⟩ (by omega) (slr) (fun w hw => hw.pick [] (by decide) rfl rfl))
   ·have hg_7_2' := hg_7_2
    try simp only [bs] at hg_7_2'
    refine AK.pass rfl rfl (hg_7_2) rfl ?_
    refine AK.pass rfl rfl (hg_7_2) rfl ?_
    refine AK.pass rfl rfl (hg_7_2) rfl ?_
    refine .v (.pickF rfl (hg_7_2) rfl) ?_
    refine .nt hK12 ?_
    refine AK.cond_f rfl (rfl) ?_
    refine .skip (.block_normal ?_)
    refine AK.then_ (hK10 _ ?_)
    refine AK.region ?_
    refine .v (.add rfl rfl (by omega)) ?_
    refine .mv rfl (.nil ?_)
    first | refine AK.then_ (hK7 _ _ (k + 1) ⟨by omega, fun hm => ext_lt (hg0.2 hm) (by assumption)⟩ (by omega) (slr) (fun w hw => hw.pick [] (by decide) rfl rfl)) | refine AK.then_ (hK7 _ _ (k + 1) ⟨by omega, fun hm => absurd hm (by simpa using hg_7_2)⟩ (by omega) (slr) (fun w hw => hw.pick [] (by decide) rfl rfl))
  ·have hno := noE_all hg0.2 (show k = rs.length by omega)
   refine .exit (.then_exit (.then_exit (.block_exit ?_)))
   refine AK.then_ (hK5 _ ?_)
   refine .sr fun _ hK14 => ?_
   refine .mv rfl (.mv rfl ?_)
   refine AK.call co23 rfl (fun w hw => s_irred w v rs (h0.at hw) hll L) trivial rfl ?_
   rintro r o ⟨d1, e1, aF, aN, as1, hI1, rfl, has, saF, saN, rfl⟩
   obtain ⟨he1, hA1, hL1⟩ := hI1.rda hE ht
   subst he1
   refine .mv rfl ?_
   refine .v (.extract rfl rfl) ?_
   refine .v (.extract rfl rfl) ?_
   refine AK.alloc el36 rfl rfl trivial rfl (fun bx12 => ?_)
   refine AK.storeBox 3 (us := [.int .i64 d1.L, .int .i64 d1.s, aF, aN]) (cs' := [.int .i64 d1.L, .int .i64 d1.s, aF, aN]) rfl sz36 rfl rfl rfl rfl oneP (Nat.le_of_ble_eq_true rfl) rfl trivial ?_
   refine .as rfl (.nt hK14 ?_)
   refine .seq fun _ hK15 => ?_
   refine .sr fun _ hK16 => ?_
   refine .mv rfl ?_
   refine .v (.neq rfl rfl) ?_
   refine .nt hK16 ?_
   refine AK.cond_f rfl (decide_eq_false (by omega)) ?_
   refine .skip ?_
   refine AK.then_ (hK15 _ ?_)
   refine .sr fun _ hK17 => ?_
   refine .mv rfl ?_
   refine AK.call co28 rfl (fun w hw => s_confluent w v rs (h0.at hw) hll (hX.at hw)) trivial rfl ?_
   rintro r o ⟨rfl, rfl⟩
   rw [hCf]
   refine .mv rfl ?_
   refine .v (.extract rfl rfl) ?_
   refine .v (.extract rfl rfl) ?_
   refine .v (.extract rfl rfl) ?_
   refine AK.alloc el45 rfl rfl trivial rfl (fun bx14 => ?_)
   refine AK.storeBox 4 (us := ccs (cfR rs (crA rs)).1) (cs' := ccs (cfR rs (crA rs)).1) rfl sz45 rfl rfl rfl rfl (ccs_one _) (Nat.le_of_ble_eq_true rfl) rfl trivial ?_
   refine .as rfl (.as rfl (.nt hK17 ?_))
   refine .seq fun _ hK18 => ?_
   refine .sr fun _ hK19 => ?_
   refine .mv rfl ?_
   refine .v (.neq rfl rfl) ?_
   refine .nt hK19 ?_
   refine AK.condNe rfl (fun hc4 => ?_) (fun hc4 => ?_)
   ·refine .sr fun _ hK20 => ?_
    refine .mv rfl (.as rfl (.as rfl (.as rfl (.nt hK20 (.ret (.then_ret ?_))))))
    refine AK.own' _ (fun w hw => ((hw.ghost 74 1).ghostG (f := Value.int .i64) 3).viewNil) ?_
    refine AK.retG [.tmp 6, .tmp 7, .tmp 8] rfl (.cons (.tmp rfl) (.cons (.tmp rfl) (.cons (.tmp rfl) (.nil)))) (fun w hw => ⟨_, _, ?_, rfl, Ret.of (hw.pick [5, 6, 7] (by decide) rfl rfl)⟩)
    exact ⟨(cfR rs (crA rs)).2.2, [], [], .slice none 0 0, .slice none 0 0, [], .inr (.inl ⟨hno, by omega, rfl, rfl, rfl⟩), rfl, nilSl, nilSl, rfl, rfl⟩
   ·refine .skip ?_
    refine AK.then_ (hK18 _ ?_)
    refine .seq fun _ hK21 => ?_
    refine .sr fun _ hK22 => ?_
    refine .mv rfl ?_
    refine .v (.not rfl) ?_
    refine .nt hK22 ?_
    refine AK.condB rfl (fun hc5 => ?_) (fun hc5 => ?_)
    ·refine .sr fun _ hK23 => ?_
     refine .as rfl (.as rfl (.as rfl (.nt hK23 (.ret (.then_ret ?_)))))
     refine AK.own' _ (fun w hw => ((hw.ghost 74 1).ghostG (f := Value.int .i64) 3).viewNil) ?_
     refine AK.retG [.tmp 6, .tmp 7, .tmp 8] rfl (.cons (.tmp rfl) (.cons (.tmp rfl) (.cons (.tmp rfl) (.nil)))) (fun w hw => ⟨_, _, ?_, rfl, Ret.of (hw.pick [5, 6, 7] (by decide) rfl rfl)⟩)
     exact ⟨6, [], [], .slice none 0 0, .slice none 0 0, [], .inr (.inr (.inl ⟨hno, by omega, by simpa using hc5, rfl, rfl, rfl⟩)), rfl, nilSl, nilSl, rfl, rfl⟩
    ·refine .skip ?_
     refine AK.then_ (hK21 _ ?_)
     refine .sr fun _ hK24 => ?_
     refine .v (.loadBoxG ag36 rfl bsp rfl rfl) ?_
     refine .mv rfl ?_
     refine AK.call co47 rfl (fun w hw => s_elements w _ d1 (RdD.own 0 hw has rfl rfl rfl) mon rs hA1) trivial rfl ?_
     rintro r o ⟨ws, q, ok, hEl, sq, rfl, rfl⟩
     rw [hL1] at hEl
     refine .mv rfl ?_
     refine .v (.extract rfl rfl) ?_
     refine .v (.extract rfl rfl) ?_
     refine .as rfl (.as rfl (.nt hK24 ?_))
     refine .seq fun _ hK25 => ?_
     refine .sr fun _ hK26 => ?_
     refine .mv rfl ?_
     refine .v (.not rfl) ?_
     refine .nt hK26 ?_
     refine AK.condB rfl (fun hc6 => ?_) (fun hc6 => ?_)
     ·have hMy : Many rs L.toNat mon := (by rcases hEl with h | h; rw [h.1] at hc6; cases hc6; exact h.2)
      refine .sr fun _ hK27 => ?_
      refine .as rfl (.as rfl (.as rfl (.nt hK27 (.ret (.then_ret ?_)))))
      refine AK.own' _ (fun w hw => ((hw.ghost 74 1).ghostG (f := Value.int .i64) 3).viewNil) ?_
      refine AK.retG [.tmp 6, .tmp 7, .tmp 8] rfl (.cons (.tmp rfl) (.cons (.tmp rfl) (.cons (.tmp rfl) (.nil)))) (fun w hw => ⟨_, _, ?_, rfl, Ret.of (hw.pick [6, 7, 8] (by decide) rfl rfl)⟩)
      exact ⟨3, [], [], .slice none 0 0, .slice none 0 0, [], .inr (.inr (.inr (.inl ⟨hno, by omega, by simpa using hc5, hMy, rfl, rfl, rfl⟩))), rfl, nilSl, nilSl, rfl, rfl⟩
     ·have hFw : Few rs L.toNat mon ws := (by rcases hEl with h | h; exact h.2; rw [h.1] at hc6; cases hc6)
      have hFl : ws.length ≤ 400 := (by obtain ⟨_, _, _, h⟩ := hFw; exact h)
      refine .skip ?_
      refine AK.then_ (hK25 _ ?_)
      refine .sr fun _ hK28 => ?_
      refine .mv rfl (.mv rfl ?_)
      refine AK.call co48 rfl (fun w hw => s_products w v rs (h0.at hw) hll hV6 q ws (RdL.view 5 hw rfl) (fun u hu => hFw.mem (by omega) hu) (fun u hu => hFw.len hu) hFl) trivial rfl ?_
      rintro r o ⟨e, vs, t, q1, q2, rvs, hT, rfl, hq0, hqn, sq1, hrl, rfl⟩
      refine AK.own' _ (fun w hw => HW.elem 5 (A' := view q2 1 vs.length (vs.map sv)) rfl (fun F hA => view_to hT hq0 hqn hA) hw) ?_
      refine .v (.extract rfl rfl) ?_
      refine .v (.extract rfl rfl) ?_
      refine .v (.extract rfl rfl) ?_
      refine .as rfl (.as rfl (.as rfl (.nt hK28 (.ret ?_))))
      refine AK.retG [.tmp 6, .tmp 7, .tmp 8] rfl (.cons (.tmp rfl) (.cons (.tmp rfl) (.cons (.tmp rfl) (.nil)))) (fun w hw => ⟨_, _, ?_, rfl, Ret.of (hw.pick [6, 7, 5] (by decide) rfl rfl)⟩)
      exact ⟨e, vs, t, q1, q2, rvs, .inr (.inr (.inr (.inr ⟨hno, by omega, by simpa using hc5, ws, hFw, hT⟩))), rfl, sq1, isSl_q2 sq hq0 hqn, hrl, rfl⟩

end Go.Proofs.Ytaeojcaidcjnaaa
