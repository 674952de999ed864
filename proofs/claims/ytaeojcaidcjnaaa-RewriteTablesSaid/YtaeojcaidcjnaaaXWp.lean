import Derived.Test.YtaeojcaidcjnaaaXWo
set_option linter.unusedVariables false
set_option linter.unusedSimpArgs false
namespace Go.Proofs.Ytaeojcaidcjnaaa
open Go.Sx Go.RowKit
set_option maxHeartbeats 4000000 in
set_option maxRecDepth 100000 in
theorem s_reftable (w : World) (v : Value) (rs : List Rul) (h : RdR (fun _ => False) w v rs) (L : Int) (mon : Bool) (hV : VR L rs) (htot : tot (lfs rs) rs.length ≤ 64) : CallS Try.prog 32 [v, .int .i64 L, .bool mon] w (fun r o => ∃ (e : Int) (vs : List Wrd) (t : List (List Int)) (q1 q2 : Value) (rvs : List Value), TblP L rs mon e vs t ∧ r = .tuple #[q1, q2, .int .i64 e] ∧ IsSl q1 ∧ IsSl q2 ∧ rvs.length = t.length ∧ o = [row q1 74 1 t.length rvs, bigA (matG (Value.int .i64) 3 rvs t), view q2 1 vs.length (vs.map sv)]) := by
 have h0 := h
 have hb := h.len
 have sv0 := Rd.sl h
 unfold RdR at h
 have hE := errR_iff.2 hV
 have hrn := hV.n
 have hLL := hV.l
 have hn6 : L.toNat ≤ 6 := (by omega)
 have hll : ∀ k, k < rs.length → (rs.getD k ([], [])).1.length ≤ 9223372036854775807 ∧ (rs.getD k ([], [])).2.length ≤ 9223372036854775807 := fun k hk => by have h := hV.v _ (getD_mem (d := ([], [])) hk); have h1 := (validW_al h.1).1; have h2 := (validW_al h.2.1).1; omega
 refine spec_of Try.func32 rfl (Nat.le_of_ble_eq_true rfl) ?_
 refine .sr fun _ hK1 => ?_
 refine .as rfl (.as rfl (.as rfl (.nt hK1 ?_)))
 refine .seq fun _ hK2 => ?_
 refine .sr fun _ hK3 => ?_
 refine .mv rfl (.mv rfl ?_)
 refine AK.call co14 rfl (fun w hw => s_refrval w v rs (h0.at hw) hll L) trivial rfl ?_
 rintro r o ⟨rfl, rfl⟩
 refine .as rfl (.nt hK3 ?_)
 refine .sr fun _ hK4 => ?_
 refine .mv rfl ?_
 refine .v (.neq rfl rfl) ?_
 refine .nt hK4 ?_
 refine AK.cond_f rfl (decide_eq_false (by omega)) ?_
 refine .skip ?_
 refine AK.then_ (hK2 _ ?_)
 refine .seq fun _ hK5 => ?_
 refine .sr fun _ hK6 => ?_
 refine .mv rfl ?_
 refine .v (.lenR sl22 rfl (by first | exact rdp | exact RdS.view 0 rfl)) ?_
 refine .mv rfl (.nt hK6 (.block ?_))
 refine AK.loopK (X := Nat) [(0, _), (1, _), (2, _), (41, _), (42, _)] (fun k => [(43, .int .i64 (k : Int))]) (fun k => []) (fun k => k ≤ rs.length ∧ (mon = false → NoE rs k)) (fun k => rs.length - k) (0) slr ?_ ?_ ?_ ?_
 ·exact ⟨Nat.zero_le _, fun _ j hj => by omega⟩
 ·exact slr
 ·exact fun w hw => hw
 ·intro k hg0 _ hK7
  refine .sr fun _ hK8 => ?_
  refine .v (.lss rfl rfl) ?_
  refine .nt hK8 ?_
  refine .seq fun _ hK9 => ?_
  refine AK.condD rfl (fun hc1 => ?_) (fun hc1 => ?_)
  ·refine .skip ?_
   refine AK.then_ (hK9 _ ?_)
   refine .seq fun _ hK10 => ?_
   refine .block ?_
   refine .sr fun _ hK11 => ?_
   first | refine .v (.iN sl22 rfl rfl (hr := (by first | exact rdp | exact RdS.view 0 rfl))) ?_ | refine .v (.iK sl22 rfl rfl (hr := (by first | exact rdp | exact RdS.view 0 rfl))) ?_
   refine .v (.loadRu ag41 rfl rdp (by omega)) ?_
   refine AK.alloc el41 rfl rfl trivial rfl (fun bx11 => ?_)
   refine AK.storeBox 0 (us := rcs (rs.getD k ([], []))) (cs' := rcs (rs.getD k ([], []))) rfl sz41 rfl rfl rfl rfl oneP (Nat.le_of_ble_eq_true rfl) rfl trivial ?_
   refine .nt hK11 ?_
   refine .sr fun _ hK12 => ?_
   refine .v (.fieldAddr fd41_1 rfl) ?_
   refine .v (.loadBox on9 rfl bsp rfl) ?_
   refine .v (.eqlS un9 rfl rfl) ?_
   refine .mv rfl ?_
   refine AK.splitB (g := 50) rfl (fun hg_7_3 => ?_) (fun hg_7_3 => ?_)
   ·have hg_7_3' := hg_7_3
    try simp only [bs] at hg_7_3'
    refine AK.val _ (Yl.move rfl) ⟨_, rfl, congrArg (fun b => some (Value.bool b)) hg_7_3⟩ rfl ?_
    refine AK.val _ (Yl.not rfl) ⟨_, rfl, congrArg (fun b => some (Value.bool b)) hg_7_3⟩ rfl ?_
    refine .v (.pickT rfl (hg_7_3) rfl) ?_
    refine .nt hK12 ?_
    refine AK.condB rfl (fun hc2 => ?_) (fun hc2 => ?_)
    ·refine .sr fun _ hK13 => ?_
     refine .as rfl (.as rfl (.as rfl (.nt hK13 (.ret (.block_ret (.then_ret (.then_ret (.block_ret (.then_ret ?_)))))))))
     refine AK.own' _ (fun w hw => ((hw.ghost 74 1).ghostG (f := Value.int .i64) 3).viewNil) ?_
     refine AK.retG [.tmp 6, .tmp 7, .tmp 8] rfl (.cons (.tmp rfl) (.cons (.tmp rfl) (.cons (.tmp rfl) (.nil)))) (fun w hw => ⟨_, _, ?_, rfl, Ret.of (hw.pick [1, 2, 3] (by decide) rfl rfl)⟩)
     exact ⟨6, [], [], .slice none 0 0, .slice none 0 0, [], .inl ⟨noE_ex (k := k) (by omega) (by simpa using hc2) (by assumption), rfl, rfl, rfl⟩, rfl, nilSl, nilSl, rfl, rfl⟩
    ·refine .skip (.block_normal ?_)
     refine AK.then_ (hK10 _ ?_)
     refine AK.region ?_
     refine .v (.add rfl rfl (by omega)) ?_
     refine .mv rfl (.nil ?_)
     first | refine AK.then_ (hK7 _ _ (k + 1) ⟨by omega, fun hm => ext_lt (hg0.2 hm) (by assumption)⟩ (by omega) (slr) (fun w hw => hw.pick [] (by decide) rfl rfl)) | refine AK.then_ (hK7 _ _ (k + 1) ⟨by omega, fun hm => absurd hm (by simpa using hc2)⟩ (by omega) (slr) (fun w hw => hw.pick [] (by decide) rfl rfl))
   ·have hg_7_3' := hg_7_3
    try simp only [bs] at hg_7_3'
    refine AK.pass rfl rfl (hg_7_3) rfl ?_
    refine AK.pass rfl rfl (hg_7_3) rfl ?_
    refine .v (.pickF rfl (hg_7_3) rfl) ?_
    refine .nt hK12 ?_
    refine AK.cond_f rfl (rfl) ?_
    refine .skip (.block_normal ?_)
    refine AK.then_ (hK10 _ ?_)
    refine AK.region ?_
    refine .v (.add rfl rfl (by omega)) ?_
    refine .mv rfl (.nil ?_)
    first | refine AK.then_ (hK7 _ _ (k + 1) ⟨by omega, fun hm => ext_lt (hg0.2 hm) (by assumption)⟩ (by omega) (slr) (fun w hw => hw.pick [] (by decide) rfl rfl)) | refine AK.then_ (hK7 _ _ (k + 1) ⟨by omega, fun hm => absurd hm (by simpa using hc2)⟩ (by omega) (slr) (fun w hw => hw.pick [] (by decide) rfl rfl))
  ·have hno := noE_all hg0.2 (show k = rs.length by omega)
   refine .exit (.then_exit (.then_exit (.block_exit ?_)))
   refine AK.then_ (hK5 _ ?_)
   refine .sr fun _ hK14 => ?_
   refine .mv rfl (.mv rfl ?_)
   refine AK.call co25 rfl (fun w hw => s_refirred w v rs (h0.at hw) L hV (.inl htot)) trivial rfl ?_
   rintro r o ⟨d2, e2, bF, bN, bs, hI2, rfl, hbs, sbF, sbN, rfl⟩
   obtain ⟨he2, hA2, hL2⟩ := hI2.rda hE (by omega)
   subst he2
   have hLn : d2.L.toNat = L.toNat := (by rw [hL2])
   refine .mv rfl ?_
   refine .v (.extract rfl rfl) ?_
   refine .v (.extract rfl rfl) ?_
   refine AK.alloc el36 rfl rfl trivial rfl (fun bx12 => ?_)
   refine AK.storeBox 3 (us := [.int .i64 d2.L, .int .i64 d2.s, bF, bN]) (cs' := [.int .i64 d2.L, .int .i64 d2.s, bF, bN]) rfl sz36 rfl rfl rfl rfl oneP (Nat.le_of_ble_eq_true rfl) rfl trivial ?_
   refine .as rfl (.nt hK14 ?_)
   refine .seq fun _ hK15 => ?_
   refine .sr fun _ hK16 => ?_
   refine .mv rfl ?_
   refine .v (.neq rfl rfl) ?_
   refine .nt hK16 ?_
   refine AK.cond_f rfl (decide_eq_false (by omega)) ?_
   refine .skip ?_
   refine AK.then_ (hK15 _ ?_)
   refine .seq fun _ hK17 => ?_
   refine .sr fun _ hK18 => ?_
   refine .mv rfl ?_
   refine AK.call co29 rfl (fun w hw => s_refconfluent w v rs (h0.at hw) L hV) trivial rfl ?_
   rintro r o ⟨rfl, rfl⟩
   refine .mv rfl ?_
   refine .v (.extract rfl rfl) ?_
   refine .v (.extract rfl rfl) ?_
   refine .v (.extract rfl rfl) ?_
   refine AK.alloc el45 rfl rfl trivial rfl (fun bx14 => ?_)
   refine AK.storeBox 4 (us := ccs (cfR rs (crA rs)).1) (cs' := ccs (cfR rs (crA rs)).1) rfl sz45 rfl rfl rfl rfl (ccs_one _) (Nat.le_of_ble_eq_true rfl) rfl trivial ?_
   refine .as rfl (.as rfl (.nt hK18 ?_))
   refine .sr fun _ hK19 => ?_
   refine .mv rfl ?_
   refine .v (.neq rfl rfl) ?_
   refine .mv rfl ?_
   refine AK.splitB (g := 72) rfl (fun hg_14_2 => ?_) (fun hg_14_2 => ?_)
   ·have hg_14_2' := hg_14_2
    try simp only [bs] at hg_14_2'
    refine AK.pass rfl rfl (hg_14_2) rfl ?_
    refine AK.pass rfl rfl (hg_14_2) rfl ?_
    refine .v (.pickT rfl (hg_14_2) rfl) ?_
    refine .nt hK19 ?_
    refine AK.cond_t rfl (rfl) ?_
    refine .seq fun _ hK20 => ?_
    refine .sr fun _ hK21 => ?_
    refine .mv rfl ?_
    refine .v (.eql rfl rfl) ?_
    refine .nt hK21 ?_
    refine AK.condD rfl (fun hc5 => ?_) (fun hc5 => ?_)
    ·refine AK.region ?_
     refine .as rfl (.nt hK20 ?_)
     refine .sr fun _ hK22 => ?_
     refine .mv rfl (.as rfl (.as rfl (.as rfl (.nt hK22 (.ret (.then_ret ?_))))))
     refine AK.own' _ (fun w hw => ((hw.ghost 74 1).ghostG (f := Value.int .i64) 3).viewNil) ?_
     refine AK.retG [.tmp 6, .tmp 7, .tmp 8] rfl (.cons (.tmp rfl) (.cons (.tmp rfl) (.cons (.tmp rfl) (.nil)))) (fun w hw => ⟨_, _, ?_, rfl, Ret.of (hw.pick [5, 6, 7] (by decide) rfl rfl)⟩)
     exact ⟨6, [], [], .slice none 0 0, .slice none 0 0, [], .inr (.inr (.inl ⟨hno, by omega, by first | assumption | (exfalso; exact (of_decide_eq_true hg_14_2) (by omega)), rfl, rfl, rfl⟩)), rfl, nilSl, nilSl, rfl, rfl⟩
    ·refine .skip ?_
     refine AK.then_ (hK20 _ ?_)
     refine .sr fun _ hK23 => ?_
     refine .mv rfl (.as rfl (.as rfl (.as rfl (.nt hK23 (.ret (.then_ret ?_))))))
     refine AK.own' _ (fun w hw => ((hw.ghost 74 1).ghostG (f := Value.int .i64) 3).viewNil) ?_
     refine AK.retG [.tmp 6, .tmp 7, .tmp 8] rfl (.cons (.tmp rfl) (.cons (.tmp rfl) (.cons (.tmp rfl) (.nil)))) (fun w hw => ⟨_, _, ?_, rfl, Ret.of (hw.pick [5, 6, 7] (by decide) rfl rfl)⟩)
     exact ⟨(cfR rs (crA rs)).2.2, [], [], .slice none 0 0, .slice none 0 0, [], .inr (.inl ⟨hno, by omega, rfl, rfl, rfl⟩), rfl, nilSl, nilSl, rfl, rfl⟩
   ·have hg_14_2' := hg_14_2
    try simp only [bs] at hg_14_2'
    refine AK.val _ (Yl.move rfl) ⟨_, rfl, congrArg (fun b => some (Value.bool b)) hg_14_2⟩ rfl ?_
    refine AK.val _ (Yl.not rfl) ⟨_, rfl, congrArg (fun b => some (Value.bool b)) hg_14_2⟩ rfl ?_
    refine .v (.pickF rfl (hg_14_2) rfl) ?_
    refine .nt hK19 ?_
    refine AK.condB rfl (fun hc4 => ?_) (fun hc4 => ?_)
    ·refine .seq fun _ hK24 => ?_
     refine .sr fun _ hK25 => ?_
     refine .mv rfl ?_
     refine .v (.eql rfl rfl) ?_
     refine .nt hK25 ?_
     refine AK.condD rfl (fun hc5 => ?_) (fun hc5 => ?_)
     ·refine AK.region ?_
      refine .as rfl (.nt hK24 ?_)
      refine .sr fun _ hK26 => ?_
      refine .mv rfl (.as rfl (.as rfl (.as rfl (.nt hK26 (.ret (.then_ret ?_))))))
      refine AK.own' _ (fun w hw => ((hw.ghost 74 1).ghostG (f := Value.int .i64) 3).viewNil) ?_
      refine AK.retG [.tmp 6, .tmp 7, .tmp 8] rfl (.cons (.tmp rfl) (.cons (.tmp rfl) (.cons (.tmp rfl) (.nil)))) (fun w hw => ⟨_, _, ?_, rfl, Ret.of (hw.pick [5, 6, 7] (by decide) rfl rfl)⟩)
      exact ⟨6, [], [], .slice none 0 0, .slice none 0 0, [], .inr (.inr (.inl ⟨hno, by omega, by first | assumption | (exfalso; exact (of_decide_eq_true hg_14_2) (by omega)), rfl, rfl, rfl⟩)), rfl, nilSl, nilSl, rfl, rfl⟩
     ·refine .skip ?_
      refine AK.then_ (hK24 _ ?_)
      refine .sr fun _ hK27 => ?_
      refine .mv rfl (.as rfl (.as rfl (.as rfl (.nt hK27 (.ret (.then_ret ?_))))))
      refine AK.own' _ (fun w hw => ((hw.ghost 74 1).ghostG (f := Value.int .i64) 3).viewNil) ?_
      refine AK.retG [.tmp 6, .tmp 7, .tmp 8] rfl (.cons (.tmp rfl) (.cons (.tmp rfl) (.cons (.tmp rfl) (.nil)))) (fun w hw => ⟨_, _, ?_, rfl, Ret.of (hw.pick [5, 6, 7] (by decide) rfl rfl)⟩)
      exact ⟨(cfR rs (crA rs)).2.2, [], [], .slice none 0 0, .slice none 0 0, [], .inr (.inl ⟨hno, by omega, rfl, rfl, rfl⟩), rfl, nilSl, nilSl, rfl, rfl⟩
    ·have hz22 : (cfR rs (crA rs)).2.2 = 0 := (by have h := of_decide_eq_false hg_14_2; omega)
     have hz21 : (cfR rs (crA rs)).2.1 = true := (by first | assumption | simpa using hc4)
     refine .skip ?_
     refine AK.then_ (hK17 _ ?_)
     refine .seq fun _ hK28 => ?_
     refine .sr fun _ hK29 => ?_
     refine .v (.loadBoxG ag36 rfl bsp rfl rfl) ?_
     refine AK.call co49 rfl (fun w hw => s_refinfinite w _ d2 (RdD.own 0 hw hbs rfl rfl rfl) hA2.1) trivial rfl ?_
     rintro r o ⟨rfl, rfl⟩
     refine .nt hK29 ?_
     refine AK.cond rfl (fun hc6 => ?_) (fun hc6 => ?_)
     ·try simp only [bs] at hc6
      refine .sr fun _ hK30 => ?_
      refine .as rfl (.as rfl (.as rfl (.nt hK30 (.ret (.then_ret ?_)))))
      refine AK.own' _ (fun w hw => ((hw.ghost 74 1).ghostG (f := Value.int .i64) 3).viewNil) ?_
      refine AK.retG [.tmp 6, .tmp 7, .tmp 8] rfl (.cons (.tmp rfl) (.cons (.tmp rfl) (.cons (.tmp rfl) (.nil)))) (fun w hw => ⟨_, _, ?_, rfl, Ret.of (hw.pick [5, 6, 7] (by decide) rfl rfl)⟩)
      exact ⟨3, [], [], .slice none 0 0, .slice none 0 0, [], .inr (.inr (.inr (.inl ⟨hno, hz22, hz21, hA2.many hLn (infV_iff.1 hc6).2, rfl, rfl, rfl⟩))), rfl, nilSl, nilSl, rfl, rfl⟩
     ·try simp only [bs] at hc6
      refine .skip ?_
      refine AK.then_ (hK28 _ ?_)
      refine .sr fun _ hK31 => ?_
      refine .as rfl (.nt hK31 ?_)
      refine .seq fun _ hK32 => ?_
      refine .sr fun _ hK33 => ?_
      refine AK.lit (xs := [.const (sv [])]) sl53 el9 rfl rfl rfl (by intro a ha; simp at ha; subst ha; rfl) (by decide) (by decide) trivial rfl (fun lw => ?_)
      refine AK.shape (v := lw) 5 rfl (fun slw => ?_)
      refine .as rfl (.nt hK33 (.block ?_))
      refine AK.loopK (X := Nat × Value × Value) [(0, _), (1, _), (2, _)] (fun x => [(17, x.2.1), (18, x.2.2)]) (fun x => [row bF 4 1 d2.fin.length (d2.fin.map Value.bool), row bN 74 1 d2.nx.length bs, bigA (matG (Value.int .i64) 3 bs d2.nx), box bx12 36 4 [.int .i64 d2.L, .int .i64 d2.s, bF, bN], box bx14 45 3 (ccs (cfR rs (crA rs)).1), row x.2.2 9 1 (rlv rs L.toNat x.1).length ((rlv rs L.toNat x.1).map sv), row x.2.1 9 1 (drp mon (cwl rs L.toNat x.1)).length ((drp mon (cwl rs L.toNat x.1)).map sv)]) (fun x => x.1 ≤ 402 ∧ (drp mon (cwl rs L.toNat x.1)).length ≤ 400 ∧ (∀ j, j < x.1 → rlv rs L.toNat j ≠ []) ∧ IsSl x.2.1 ∧ IsSl x.2.2) (fun x => 403 - x.1) ((0, .slice none 0 0, lw)) slr ?_ ?_ ?_ ?_
      ·exact ⟨by omega, by simp [drp, cwl], fun j hj => by omega, nilSl, slw⟩
      ·exact slr
      ·exact fun w hw => by exact hw.ghost 9 1
      ·intro x hg1 _ hK34
       have hwv := hg1.2.2.2.1
       have hrv := hg1.2.2.2.2
       have hcg := cwl_ge x.1 hg1.2.2.1
       have hdl := drp_len (rs := rs) (n := L.toNat) (mon := mon) x.1
       have hlv := rlv_le (rs := rs) hn6 x.1
       have hdw := hg1.2.1
       refine .seq fun _ hK35 => ?_
       refine .sr fun _ hK36 => ?_
       refine .mv rfl ?_
       refine .v (.lenR sl53 rfl (by first | exact rdp | exact RdS.view 0 rfl)) ?_
       refine .v (.gtr rfl rfl) ?_
       refine .nt hK36 ?_
       refine AK.condD rfl (fun hc7 => ?_) (fun hc7 => ?_)
       ·have hne : rlv rs L.toNat x.1 ≠ [] := fun e => by rw [e] at hc7; simp at hc7
        refine .skip ?_
        refine AK.then_ (hK35 _ ?_)
        refine .block ?_
        refine .sr fun _ hK37 => ?_
        refine .as rfl (.nt hK37 ?_)
        refine .seq fun _ hK38 => ?_
        refine .sr fun _ hK39 => ?_
        refine .mv rfl ?_
        refine .v (.lenR sl53 rfl (by first | exact rdp | exact RdS.view 0 rfl)) ?_
        refine .mv rfl (.nt hK39 (.block ?_))
        refine AK.loopK (X := Nat × Value × Value) [(0, _), (1, _), (2, _), (85, _), (86, _)] (fun y => [(17, y.2.1), (19, y.2.2), (87, .int .i64 (y.1 : Int))]) (fun y => [row bF 4 1 d2.fin.length (d2.fin.map Value.bool), row bN 74 1 d2.nx.length bs, bigA (matG (Value.int .i64) 3 bs d2.nx), box bx12 36 4 [.int .i64 d2.L, .int .i64 d2.s, bF, bN], box bx14 45 3 (ccs (cfR rs (crA rs)).1), row x.2.2 9 1 (rlv rs L.toNat x.1).length ((rlv rs L.toNat x.1).map sv), row y.2.1 9 1 (drp mon (cwl rs L.toNat x.1 ++ (rlv rs L.toNat x.1).take y.1)).length ((drp mon (cwl rs L.toNat x.1 ++ (rlv rs L.toNat x.1).take y.1)).map sv), row y.2.2 9 1 (((rlv rs L.toNat x.1).take y.1).flatMap fun u => chx rs u L.toNat).length ((((rlv rs L.toNat x.1).take y.1).flatMap fun u => chx rs u L.toNat).map sv)]) (fun y => y.1 ≤ (rlv rs L.toNat x.1).length ∧ IsSl y.2.1 ∧ IsSl y.2.2) (fun y => (rlv rs L.toNat x.1).length - y.1) ((0, x.2.1, .slice none 0 0)) slr ?_ ?_ ?_ ?_
        ·exact ⟨Nat.zero_le _, hwv, nilSl⟩
        ·exact slr
        ·exact fun w hw => by dsimp only; rw [List.take_zero, List.append_nil]; exact hw.ghost 9 1
        ·intro y hg2 _ hK40
         have hy1 := hg2.2.1
         have hy2 := hg2.2.2
         refine .sr fun _ hK41 => ?_
         refine .v (.lss rfl rfl) ?_
         refine .nt hK41 ?_
         refine .seq fun _ hK42 => ?_
         refine AK.condD rfl (fun hc8 => ?_) (fun hc8 => ?_)
         ·have hUm : ((rlv rs L.toNat x.1).getD y.1 []) ∈ rlv rs L.toNat x.1 := getD_mem (show y.1 < (rlv rs L.toNat x.1).length by omega)
          have hUk := rlv_mem x.1 hUm
          have hUl := hUk.1
          have hd1 := dl_le (mon := mon) (cwl rs L.toNat x.1) (rlv rs L.toNat x.1) y.1
          have hf1 := fl_le (rs := rs) hn6 (rlv rs L.toNat x.1) y.1
          refine .skip ?_
          refine AK.then_ (hK42 _ ?_)
          refine .seq fun _ hK43 => ?_
          refine .block ?_
          refine .sr fun _ hK44 => ?_
          first | refine .v (.iN sl53 rfl rfl (hr := (by first | exact rdp | exact RdS.view 0 rfl))) ?_ | refine .v (.iK sl53 rfl rfl (hr := (by first | exact rdp | exact RdS.view 0 rfl))) ?_
          refine .v (.loadS on9 rfl (by first | exact rdp | exact RdS.view 0 rfl) (by omega)) ?_
          refine .as rfl (.nt hK44 ?_)
          refine .seq fun _ hK45 => ?_
          refine .sr fun _ hK46 => ?_
          refine .mv rfl ?_
          refine .v (.neqS un9 rfl rfl) ?_
          refine .mv rfl ?_
          refine AK.splitB (g := 93) rfl (fun hg_27_2 => ?_) (fun hg_27_2 => ?_)
          ·have hg_27_2' := hg_27_2
           try simp only [bs] at hg_27_2'
           refine AK.pass rfl rfl (hg_27_2) rfl ?_
           refine .v (.pickT rfl (hg_27_2) rfl) ?_
           refine .nt hK46 ?_
           refine AK.cond_t rfl (rfl) ?_
           have hk9 : ((rlv rs L.toNat x.1).getD y.1 []) ≠ [] ∨ mon = true := (by first | exact .inl (of_decide_eq_true hg_27_2) | exact .inr hc9)
           refine AK.region ?_
           refine .mv rfl (.mv rfl ?_)
           refine AK.append1 6 rfl sl53 el9 rfl (by decide) rfl (by intro k hk; cases hk; rfl) rfl (by intro u hu; replace hu : u ∈ [sv ((rlv rs L.toNat x.1).getD y.1 [])] := hu; rw [List.mem_singleton] at hu; subst hu; rfl) (by omega) (by omega) (by decide) rfl rfl (fun wa _ hwa => ?_)
           refine .as rfl (.nt hK45 ?_)
           refine .sr fun _ hK47 => ?_
           refine .as rfl (.nt hK47 (.block ?_))
           refine AK.loopK (X := Nat × Value) [(0, _), (1, _), (2, _), (17, _), (21, _), (85, _), (86, _), (87, _)] (fun z => [(19, z.2), (22, .int .i64 (z.1 : Int))]) (fun z => [row bF 4 1 d2.fin.length (d2.fin.map Value.bool), row bN 74 1 d2.nx.length bs, bigA (matG (Value.int .i64) 3 bs d2.nx), box bx12 36 4 [.int .i64 d2.L, .int .i64 d2.s, bF, bN], box bx14 45 3 (ccs (cfR rs (crA rs)).1), row x.2.2 9 1 (rlv rs L.toNat x.1).length ((rlv rs L.toNat x.1).map sv), row wa 9 1 (drp mon (cwl rs L.toNat x.1 ++ (rlv rs L.toNat x.1).take (y.1 + 1))).length ((drp mon (cwl rs L.toNat x.1 ++ (rlv rs L.toNat x.1).take (y.1 + 1))).map sv), row z.2 9 1 (((rlv rs L.toNat x.1).take y.1).flatMap (fun u => chx rs u L.toNat) ++ chx rs ((rlv rs L.toNat x.1).getD y.1 []) z.1).length ((((rlv rs L.toNat x.1).take y.1).flatMap (fun u => chx rs u L.toNat) ++ chx rs ((rlv rs L.toNat x.1).getD y.1 []) z.1).map sv)]) (fun z => z.1 ≤ L.toNat ∧ IsSl z.2) (fun z => L.toNat - z.1) ((0, y.2.2)) slr ?_ ?_ ?_ ?_
           ·exact ⟨Nat.zero_le _, hy2⟩
           ·exact slr
           ·exact fun w hw => by dsimp only; rw [show chx rs ((rlv rs L.toNat x.1).getD y.1 []) 0 = [] from rfl, List.append_nil, drp_take (by omega), if_pos hk9, map_snoc, len_snoc]; exact hw
           ·intro z hg3 _ hK48
            have hz2 := hg3.2
            refine .seq fun _ hK49 => ?_
            refine .sr fun _ hK50 => ?_
            refine .mv rfl (.mv rfl ?_)
            refine .v (.lss rfl rfl) ?_
            refine .nt hK50 ?_
            refine AK.condD rfl (fun hc10 => ?_) (fun hc10 => ?_)
            ·have hf2 : (((rlv rs L.toNat x.1).take y.1).flatMap (fun u => chx rs u L.toNat) ++ chx rs ((rlv rs L.toNat x.1).getD y.1 []) z.1).length ≤ 6 * (rlv rs L.toNat x.1).length + 6 := (by rw [List.length_append]; have := chx_len (rs := rs) ((rlv rs L.toNat x.1).getD y.1 []) z.1; omega)
             have hVl : (((rlv rs L.toNat x.1).getD y.1 []) ++ [ltr z.1]).length ≤ 403 := (by rw [List.length_append, hUl, List.length_singleton]; omega)
             have hVa : Al (((rlv rs L.toNat x.1).getD y.1 []) ++ [ltr z.1]) := (Lt.app (hUk.2 hn6) (fun c hc => by rw [List.mem_singleton.1 hc, ltr_toNat (by omega)]; omega)).al (by omega)
             refine .skip ?_
             refine AK.then_ (hK49 _ ?_)
             refine .seq fun _ hK51 => ?_
             refine .block ?_
             refine .sr fun _ hK52 => ?_
             refine .mv rfl (.mv rfl ?_)
             refine .v (.add rfl rfl (by omega)) ?_
             refine AK.val (byv (ltr z.1)) (Yl.valE (Yl.convI (by kernel_rfl) un5 rfl (wrap_u8 (by omega))) (byv_ltr (by omega))) trivial rfl ?_
             refine AK.lit (xs := [.tmp 108]) sl78 el5 rfl rfl rfl (by intro a ha; simp at ha; subst ha; rfl) (by decide) (by decide) trivial rfl (fun lb => ?_)
             refine .v (.bytesS (l := [ltr z.1]) sl78.1 un5 un9 rfl (RdS.own (n := 1) 8 rfl)) ?_
             refine .v (.concat rfl rfl (by have h := hVl; simp only [List.length_append, List.length_cons, List.length_nil] at h; first | omega | (simp only [List.length_append, List.length_cons, List.length_nil]; omega))) ?_
             refine .as rfl (.nt hK52 ?_)
             refine .sr fun _ hK53 => ?_
             refine .mv rfl (.mv rfl ?_)
             refine AK.call co20 rfl (fun w hw => s_refreduced w v rs (h0.at hw) L hV (((rlv rs L.toNat x.1).getD y.1 []) ++ [ltr z.1]) hVa) trivial rfl ?_
             rintro r o ⟨rfl, rfl⟩
             refine .nt hK53 ?_
             refine AK.cond rfl (fun hc11 => ?_) (fun hc11 => ?_)
             ·try simp only [bs] at hc11
              have hr : rdb rs (((rlv rs L.toNat x.1).getD y.1 []) ++ [ltr z.1]) = true := hc11
              refine AK.region ?_
              refine .mv rfl (.mv rfl ?_)
              refine AK.append1 7 rfl sl53 el9 rfl (by decide) rfl (by intro k hk; cases hk; rfl) rfl (by intro u hu; replace hu : u ∈ [sv (((rlv rs L.toNat x.1).getD y.1 []) ++ [ltr z.1])] := hu; rw [List.mem_singleton] at hu; subst hu; rfl) (by omega) (by omega) (by decide) rfl rfl (fun na _ hna => ?_)
              refine .as rfl (.nil (.block_normal ?_))
              refine AK.then_ (hK51 _ ?_)
              refine AK.region ?_
              refine .mv rfl ?_
              refine .v (.add rfl rfl (by omega)) ?_
              refine .as rfl (.nil ?_)
              first | refine AK.then_ (hK48 _ _ ((z.1 + 1, na)) ⟨by dsimp only; omega, hna⟩ (by dsimp only; omega) (slr) (fun w hw => by dsimp only; rw [chx_yes hr, ← List.append_assoc, map_snoc, len_snoc]; exact hw.pick [0, 1, 2, 3, 4, 5, 6, 7] (by decide) rfl rfl)) | refine AK.then_ (hK48 _ _ ((z.1 + 1, z.2)) ⟨by dsimp only; omega, hz2⟩ (by dsimp only; omega) (slr) (fun w hw => by dsimp only; rw [chx_no hr]; exact hw.pick [0, 1, 2, 3, 4, 5, 6, 7] (by decide) rfl rfl))
             ·try simp only [bs] at hc11
              have hr : ¬ rdb rs (((rlv rs L.toNat x.1).getD y.1 []) ++ [ltr z.1]) = true := (by unfold rdb; rw [hc11]; decide)
              refine .skip (.block_normal ?_)
              refine AK.then_ (hK51 _ ?_)
              refine AK.region ?_
              refine .mv rfl ?_
              refine .v (.add rfl rfl (by omega)) ?_
              refine .as rfl (.nil ?_)
              first | refine AK.then_ (hK48 _ _ ((z.1 + 1, na)) ⟨by dsimp only; omega, hna⟩ (by dsimp only; omega) (slr) (fun w hw => by dsimp only; rw [chx_yes hr, ← List.append_assoc, map_snoc, len_snoc]; exact hw.pick [0, 1, 2, 3, 4, 5, 6, 7] (by decide) rfl rfl)) | refine AK.then_ (hK48 _ _ ((z.1 + 1, z.2)) ⟨by dsimp only; omega, hz2⟩ (by dsimp only; omega) (slr) (fun w hw => by dsimp only; rw [chx_no hr]; exact hw.pick [0, 1, 2, 3, 4, 5, 6, 7] (by decide) rfl rfl))
            ·have hz : z.1 = L.toNat := (by omega)
             refine .exit (.then_exit (.then_exit (.block_exit (.block_normal ?_))))
             refine AK.then_ (hK43 _ ?_)
             refine AK.region ?_
             refine .v (.add rfl rfl (by omega)) ?_
             refine .mv rfl (.nil ?_)
             first | refine AK.then_ (hK40 _ _ ((y.1 + 1, wa, z.2)) ⟨by dsimp only; omega, hwa, hg3.2⟩ (by dsimp only; omega) (slr) (fun w hw => by dsimp only; rw [hz, flat_take (by omega)] at hw; exact hw.pick [0, 1, 2, 3, 4, 5, 6, 7] (by decide) rfl rfl)) | refine AK.then_ (hK40 _ _ ((y.1 + 1, y.2.1, z.2)) ⟨by dsimp only; omega, hy1, hg3.2⟩ (by dsimp only; omega) (slr) (fun w hw => by dsimp only; rw [hz, flat_take (by omega)] at hw; exact hw.pick [0, 1, 2, 3, 4, 5, 6, 7] (by decide) rfl rfl))
          ·have hg_27_2' := hg_27_2
           try simp only [bs] at hg_27_2'
           refine AK.val _ (Yl.move rfl) ⟨_, rfl, congrArg (fun b => some (Value.bool b)) hg_27_2⟩ rfl ?_
           refine .v (.pickF rfl (hg_27_2) rfl) ?_
           refine .nt hK46 ?_
           refine AK.cond rfl (fun hc9 => ?_) (fun hc9 => ?_)
           ·try simp only [bs] at hc9
            have hk9 : ((rlv rs L.toNat x.1).getD y.1 []) ≠ [] ∨ mon = true := (by first | exact .inl (of_decide_eq_true hg_27_2) | exact .inr hc9)
            refine AK.region ?_
            refine .mv rfl (.mv rfl ?_)
            refine AK.append1 6 rfl sl53 el9 rfl (by decide) rfl (by intro k hk; cases hk; rfl) rfl (by intro u hu; replace hu : u ∈ [sv ((rlv rs L.toNat x.1).getD y.1 [])] := hu; rw [List.mem_singleton] at hu; subst hu; rfl) (by omega) (by omega) (by decide) rfl rfl (fun wa _ hwa => ?_)
            refine .as rfl (.nt hK45 ?_)
            refine .sr fun _ hK54 => ?_
            refine .as rfl (.nt hK54 (.block ?_))
            refine AK.loopK (X := Nat × Value) [(0, _), (1, _), (2, _), (17, _), (21, _), (85, _), (86, _), (87, _)] (fun z => [(19, z.2), (22, .int .i64 (z.1 : Int))]) (fun z => [row bF 4 1 d2.fin.length (d2.fin.map Value.bool), row bN 74 1 d2.nx.length bs, bigA (matG (Value.int .i64) 3 bs d2.nx), box bx12 36 4 [.int .i64 d2.L, .int .i64 d2.s, bF, bN], box bx14 45 3 (ccs (cfR rs (crA rs)).1), row x.2.2 9 1 (rlv rs L.toNat x.1).length ((rlv rs L.toNat x.1).map sv), row wa 9 1 (drp mon (cwl rs L.toNat x.1 ++ (rlv rs L.toNat x.1).take (y.1 + 1))).length ((drp mon (cwl rs L.toNat x.1 ++ (rlv rs L.toNat x.1).take (y.1 + 1))).map sv), row z.2 9 1 (((rlv rs L.toNat x.1).take y.1).flatMap (fun u => chx rs u L.toNat) ++ chx rs ((rlv rs L.toNat x.1).getD y.1 []) z.1).length ((((rlv rs L.toNat x.1).take y.1).flatMap (fun u => chx rs u L.toNat) ++ chx rs ((rlv rs L.toNat x.1).getD y.1 []) z.1).map sv)]) (fun z => z.1 ≤ L.toNat ∧ IsSl z.2) (fun z => L.toNat - z.1) ((0, y.2.2)) slr ?_ ?_ ?_ ?_
            ·exact ⟨Nat.zero_le _, hy2⟩
            ·exact slr
            ·exact fun w hw => by dsimp only; rw [show chx rs ((rlv rs L.toNat x.1).getD y.1 []) 0 = [] from rfl, List.append_nil, drp_take (by omega), if_pos hk9, map_snoc, len_snoc]; exact hw
            ·intro z hg3 _ hK55
             have hz2 := hg3.2
             refine .seq fun _ hK56 => ?_
             refine .sr fun _ hK57 => ?_
             refine .mv rfl (.mv rfl ?_)
             refine .v (.lss rfl rfl) ?_
             refine .nt hK57 ?_
             refine AK.condD rfl (fun hc10 => ?_) (fun hc10 => ?_)
             ·have hf2 : (((rlv rs L.toNat x.1).take y.1).flatMap (fun u => chx rs u L.toNat) ++ chx rs ((rlv rs L.toNat x.1).getD y.1 []) z.1).length ≤ 6 * (rlv rs L.toNat x.1).length + 6 := (by rw [List.length_append]; have := chx_len (rs := rs) ((rlv rs L.toNat x.1).getD y.1 []) z.1; omega)
              have hVl : (((rlv rs L.toNat x.1).getD y.1 []) ++ [ltr z.1]).length ≤ 403 := (by rw [List.length_append, hUl, List.length_singleton]; omega)
              have hVa : Al (((rlv rs L.toNat x.1).getD y.1 []) ++ [ltr z.1]) := (Lt.app (hUk.2 hn6) (fun c hc => by rw [List.mem_singleton.1 hc, ltr_toNat (by omega)]; omega)).al (by omega)
              refine .skip ?_
              refine AK.then_ (hK56 _ ?_)
              refine .seq fun _ hK58 => ?_
              refine .block ?_
              refine .sr fun _ hK59 => ?_
              refine .mv rfl (.mv rfl ?_)
              refine .v (.add rfl rfl (by omega)) ?_
              refine AK.val (byv (ltr z.1)) (Yl.valE (Yl.convI (by kernel_rfl) un5 rfl (wrap_u8 (by omega))) (byv_ltr (by omega))) trivial rfl ?_
              refine AK.lit (xs := [.tmp 108]) sl78 el5 rfl rfl rfl (by intro a ha; simp at ha; subst ha; rfl) (by decide) (by decide) trivial rfl (fun lb => ?_)
              refine .v (.bytesS (l := [ltr z.1]) sl78.1 un5 un9 rfl (RdS.own (n := 1) 8 rfl)) ?_
              refine .v (.concat rfl rfl (by have h := hVl; simp only [List.length_append, List.length_cons, List.length_nil] at h; first | omega | (simp only [List.length_append, List.length_cons, List.length_nil]; omega))) ?_
              refine .as rfl (.nt hK59 ?_)
              refine .sr fun _ hK60 => ?_
              refine .mv rfl (.mv rfl ?_)
              refine AK.call co20 rfl (fun w hw => s_refreduced w v rs (h0.at hw) L hV (((rlv rs L.toNat x.1).getD y.1 []) ++ [ltr z.1]) hVa) trivial rfl ?_
              rintro r o ⟨rfl, rfl⟩
              refine .nt hK60 ?_
              refine AK.cond rfl (fun hc11 => ?_) (fun hc11 => ?_)
              ·try simp only [bs] at hc11
               have hr : rdb rs (((rlv rs L.toNat x.1).getD y.1 []) ++ [ltr z.1]) = true := hc11
               refine AK.region ?_
               refine .mv rfl (.mv rfl ?_)
               refine AK.append1 7 rfl sl53 el9 rfl (by decide) rfl (by intro k hk; cases hk; rfl) rfl (by intro u hu; replace hu : u ∈ [sv (((rlv rs L.toNat x.1).getD y.1 []) ++ [ltr z.1])] := hu; rw [List.mem_singleton] at hu; subst hu; rfl) (by omega) (by omega) (by decide) rfl rfl (fun na _ hna => ?_)
               refine .as rfl (.nil (.block_normal ?_))
               refine AK.then_ (hK58 _ ?_)
               refine AK.region ?_
               refine .mv rfl ?_
               refine .v (.add rfl rfl (by omega)) ?_
               refine .as rfl (.nil ?_)
               first | refine AK.then_ (hK55 _ _ ((z.1 + 1, na)) ⟨by dsimp only; omega, hna⟩ (by dsimp only; omega) (slr) (fun w hw => by dsimp only; rw [chx_yes hr, ← List.append_assoc, map_snoc, len_snoc]; exact hw.pick [0, 1, 2, 3, 4, 5, 6, 7] (by decide) rfl rfl)) | refine AK.then_ (hK55 _ _ ((z.1 + 1, z.2)) ⟨by dsimp only; omega, hz2⟩ (by dsimp only; omega) (slr) (fun w hw => by dsimp only; rw [chx_no hr]; exact hw.pick [0, 1, 2, 3, 4, 5, 6, 7] (by decide) rfl rfl))
              ·try simp only [bs] at hc11
               have hr : ¬ rdb rs (((rlv rs L.toNat x.1).getD y.1 []) ++ [ltr z.1]) = true := (by unfold rdb; rw [hc11]; decide)
               refine .skip (.block_normal ?_)
               refine AK.then_ (hK58 _ ?_)
               refine AK.region ?_
               refine .mv rfl ?_
               refine .v (.add rfl rfl (by omega)) ?_
               refine .as rfl (.nil ?_)
               first | refine AK.then_ (hK55 _ _ ((z.1 + 1, na)) ⟨by dsimp only; omega, hna⟩ (by dsimp only; omega) (slr) (fun w hw => by dsimp only; rw [chx_yes hr, ← List.append_assoc, map_snoc, len_snoc]; exact hw.pick [0, 1, 2, 3, 4, 5, 6, 7] (by decide) rfl rfl)) | refine AK.then_ (hK55 _ _ ((z.1 + 1, z.2)) ⟨by dsimp only; omega, hz2⟩ (by dsimp only; omega) (slr) (fun w hw => by dsimp only; rw [chx_no hr]; exact hw.pick [0, 1, 2, 3, 4, 5, 6, 7] (by decide) rfl rfl))
             ·have hz : z.1 = L.toNat := (by omega)
              refine .exit (.then_exit (.then_exit (.block_exit (.block_normal ?_))))
              refine AK.then_ (hK43 _ ?_)
              refine AK.region ?_
              refine .v (.add rfl rfl (by omega)) ?_
              refine .mv rfl (.nil ?_)
              first | refine AK.then_ (hK40 _ _ ((y.1 + 1, wa, z.2)) ⟨by dsimp only; omega, hwa, hg3.2⟩ (by dsimp only; omega) (slr) (fun w hw => by dsimp only; rw [hz, flat_take (by omega)] at hw; exact hw.pick [0, 1, 2, 3, 4, 5, 6, 7] (by decide) rfl rfl)) | refine AK.then_ (hK40 _ _ ((y.1 + 1, y.2.1, z.2)) ⟨by dsimp only; omega, hy1, hg3.2⟩ (by dsimp only; omega) (slr) (fun w hw => by dsimp only; rw [hz, flat_take (by omega)] at hw; exact hw.pick [0, 1, 2, 3, 4, 5, 6, 7] (by decide) rfl rfl))
           ·try simp only [bs] at hc9
            have hk9 : ¬ (((rlv rs L.toNat x.1).getD y.1 []) ≠ [] ∨ mon = true) := (by rintro (h | h); exact of_decide_eq_false hg_27_2 h; rw [hc9] at h; cases h)
            refine .skip ?_
            refine AK.then_ (hK45 _ ?_)
            refine .sr fun _ hK61 => ?_
            refine .as rfl (.nt hK61 (.block ?_))
            refine AK.loopK (X := Nat × Value) [(0, _), (1, _), (2, _), (17, _), (21, _), (85, _), (86, _), (87, _)] (fun z => [(19, z.2), (22, .int .i64 (z.1 : Int))]) (fun z => [row bF 4 1 d2.fin.length (d2.fin.map Value.bool), row bN 74 1 d2.nx.length bs, bigA (matG (Value.int .i64) 3 bs d2.nx), box bx12 36 4 [.int .i64 d2.L, .int .i64 d2.s, bF, bN], box bx14 45 3 (ccs (cfR rs (crA rs)).1), row x.2.2 9 1 (rlv rs L.toNat x.1).length ((rlv rs L.toNat x.1).map sv), row y.2.1 9 1 (drp mon (cwl rs L.toNat x.1 ++ (rlv rs L.toNat x.1).take (y.1 + 1))).length ((drp mon (cwl rs L.toNat x.1 ++ (rlv rs L.toNat x.1).take (y.1 + 1))).map sv), row z.2 9 1 (((rlv rs L.toNat x.1).take y.1).flatMap (fun u => chx rs u L.toNat) ++ chx rs ((rlv rs L.toNat x.1).getD y.1 []) z.1).length ((((rlv rs L.toNat x.1).take y.1).flatMap (fun u => chx rs u L.toNat) ++ chx rs ((rlv rs L.toNat x.1).getD y.1 []) z.1).map sv)]) (fun z => z.1 ≤ L.toNat ∧ IsSl z.2) (fun z => L.toNat - z.1) ((0, y.2.2)) slr ?_ ?_ ?_ ?_
            ·exact ⟨Nat.zero_le _, hy2⟩
            ·exact slr
            ·exact fun w hw => by dsimp only; rw [show chx rs ((rlv rs L.toNat x.1).getD y.1 []) 0 = [] from rfl, List.append_nil, drp_take (by omega), if_neg hk9, List.append_nil]; exact hw
            ·intro z hg3 _ hK62
             have hz2 := hg3.2
             refine .seq fun _ hK63 => ?_
             refine .sr fun _ hK64 => ?_
             refine .mv rfl (.mv rfl ?_)
             refine .v (.lss rfl rfl) ?_
             refine .nt hK64 ?_
             refine AK.condD rfl (fun hc10 => ?_) (fun hc10 => ?_)
             ·have hf2 : (((rlv rs L.toNat x.1).take y.1).flatMap (fun u => chx rs u L.toNat) ++ chx rs ((rlv rs L.toNat x.1).getD y.1 []) z.1).length ≤ 6 * (rlv rs L.toNat x.1).length + 6 := (by rw [List.length_append]; have := chx_len (rs := rs) ((rlv rs L.toNat x.1).getD y.1 []) z.1; omega)
              have hVl : (((rlv rs L.toNat x.1).getD y.1 []) ++ [ltr z.1]).length ≤ 403 := (by rw [List.length_append, hUl, List.length_singleton]; omega)
              have hVa : Al (((rlv rs L.toNat x.1).getD y.1 []) ++ [ltr z.1]) := (Lt.app (hUk.2 hn6) (fun c hc => by rw [List.mem_singleton.1 hc, ltr_toNat (by omega)]; omega)).al (by omega)
              refine .skip ?_
              refine AK.then_ (hK63 _ ?_)
              refine .seq fun _ hK65 => ?_
              refine .block ?_
              refine .sr fun _ hK66 => ?_
              refine .mv rfl (.mv rfl ?_)
              refine .v (.add rfl rfl (by omega)) ?_
              refine AK.val (byv (ltr z.1)) (Yl.valE (Yl.convI (by kernel_rfl) un5 rfl (wrap_u8 (by omega))) (byv_ltr (by omega))) trivial rfl ?_
              refine AK.lit (xs := [.tmp 108]) sl78 el5 rfl rfl rfl (by intro a ha; simp at ha; subst ha; rfl) (by decide) (by decide) trivial rfl (fun lb => ?_)
              refine .v (.bytesS (l := [ltr z.1]) sl78.1 un5 un9 rfl (RdS.own (n := 1) 8 rfl)) ?_
              refine .v (.concat rfl rfl (by have h := hVl; simp only [List.length_append, List.length_cons, List.length_nil] at h; first | omega | (simp only [List.length_append, List.length_cons, List.length_nil]; omega))) ?_
              refine .as rfl (.nt hK66 ?_)
              refine .sr fun _ hK67 => ?_
              refine .mv rfl (.mv rfl ?_)
              refine AK.call co20 rfl (fun w hw => s_refreduced w v rs (h0.at hw) L hV (((rlv rs L.toNat x.1).getD y.1 []) ++ [ltr z.1]) hVa) trivial rfl ?_
              rintro r o ⟨rfl, rfl⟩
              refine .nt hK67 ?_
              refine AK.cond rfl (fun hc11 => ?_) (fun hc11 => ?_)
              ·try simp only [bs] at hc11
               have hr : rdb rs (((rlv rs L.toNat x.1).getD y.1 []) ++ [ltr z.1]) = true := hc11
               refine AK.region ?_
               refine .mv rfl (.mv rfl ?_)
               refine AK.append1 7 rfl sl53 el9 rfl (by decide) rfl (by intro k hk; cases hk; rfl) rfl (by intro u hu; replace hu : u ∈ [sv (((rlv rs L.toNat x.1).getD y.1 []) ++ [ltr z.1])] := hu; rw [List.mem_singleton] at hu; subst hu; rfl) (by omega) (by omega) (by decide) rfl rfl (fun na _ hna => ?_)
               refine .as rfl (.nil (.block_normal ?_))
               refine AK.then_ (hK65 _ ?_)
               refine AK.region ?_
               refine .mv rfl ?_
               refine .v (.add rfl rfl (by omega)) ?_
               refine .as rfl (.nil ?_)
               first | refine AK.then_ (hK62 _ _ ((z.1 + 1, na)) ⟨by dsimp only; omega, hna⟩ (by dsimp only; omega) (slr) (fun w hw => by dsimp only; rw [chx_yes hr, ← List.append_assoc, map_snoc, len_snoc]; exact hw.pick [0, 1, 2, 3, 4, 5, 6, 7] (by decide) rfl rfl)) | refine AK.then_ (hK62 _ _ ((z.1 + 1, z.2)) ⟨by dsimp only; omega, hz2⟩ (by dsimp only; omega) (slr) (fun w hw => by dsimp only; rw [chx_no hr]; exact hw.pick [0, 1, 2, 3, 4, 5, 6, 7] (by decide) rfl rfl))
              ·try simp only [bs] at hc11
               have hr : ¬ rdb rs (((rlv rs L.toNat x.1).getD y.1 []) ++ [ltr z.1]) = true := (by unfold rdb; rw [hc11]; decide)
               refine .skip (.block_normal ?_)
               refine AK.then_ (hK65 _ ?_)
               refine AK.region ?_
               refine .mv rfl ?_
               refine .v (.add rfl rfl (by omega)) ?_
               refine .as rfl (.nil ?_)
               first | refine AK.then_ (hK62 _ _ ((z.1 + 1, na)) ⟨by dsimp only; omega, hna⟩ (by dsimp only; omega) (slr) (fun w hw => by dsimp only; rw [chx_yes hr, ← List.append_assoc, map_snoc, len_snoc]; exact hw.pick [0, 1, 2, 3, 4, 5, 6, 7] (by decide) rfl rfl)) | refine AK.then_ (hK62 _ _ ((z.1 + 1, z.2)) ⟨by dsimp only; omega, hz2⟩ (by dsimp only; omega) (slr) (fun w hw => by dsimp only; rw [chx_no hr]; exact hw.pick [0, 1, 2, 3, 4, 5, 6, 7] (by decide) rfl rfl))
             ·have hz : z.1 = L.toNat := (by omega)
              refine .exit (.then_exit (.then_exit (.block_exit (.block_normal ?_))))
              refine AK.then_ (hK43 _ ?_)
              refine AK.region ?_
              refine .v (.add rfl rfl (by omega)) ?_
              refine .mv rfl (.nil ?_)
              first | refine AK.then_ (hK40 _ _ ((y.1 + 1, wa, z.2)) ⟨by dsimp only; omega, hwa, hg3.2⟩ (by dsimp only; omega) (slr) (fun w hw => by dsimp only; rw [hz, flat_take (by omega)] at hw; exact hw.pick [0, 1, 2, 3, 4, 5, 6, 7] (by decide) rfl rfl)) | refine AK.then_ (hK40 _ _ ((y.1 + 1, y.2.1, z.2)) ⟨by dsimp only; omega, hy1, hg3.2⟩ (by dsimp only; omega) (slr) (fun w hw => by dsimp only; rw [hz, flat_take (by omega)] at hw; exact hw.pick [0, 1, 2, 3, 4, 5, 6, 7] (by decide) rfl rfl))
         ·have hy : y.1 = (rlv rs L.toNat x.1).length := (by omega)
          have hyw : drp mon (cwl rs L.toNat x.1 ++ (rlv rs L.toNat x.1).take y.1) = drp mon (cwl rs L.toNat (x.1 + 1)) := (by rw [hy, List.take_length]; rfl)
          have hyf : (((rlv rs L.toNat x.1).take y.1).flatMap fun u => chx rs u L.toNat) = rlv rs L.toNat (x.1 + 1) := (by rw [hy, List.take_length]; rfl)
          refine .exit (.then_exit (.then_exit (.block_exit ?_)))
          refine AK.then_ (hK38 _ ?_)
          refine .sr fun _ hK68 => ?_
          refine .mv rfl (.as rfl (.nt hK68 ?_))
          refine .sr fun _ hK69 => ?_
          refine .mv rfl ?_
          refine .v (.lenR sl53 rfl (by first | exact rdp | exact RdS.view 0 rfl)) ?_
          refine .v (.gtr rfl rfl) ?_
          refine .nt hK69 ?_
          refine AK.condD rfl (fun hc12 => ?_) (fun hc12 => ?_)
          ·refine .sr fun _ hK70 => ?_
           refine .as rfl (.as rfl (.as rfl (.nt hK70 (.ret (.block_ret (.then_ret (.block_ret (.then_ret ?_))))))))
           refine AK.own' _ (fun w hw => ((hw.ghost 74 1).ghostG (f := Value.int .i64) 3).viewNil) ?_
           refine AK.retG [.tmp 6, .tmp 7, .tmp 8] rfl (.cons (.tmp rfl) (.cons (.tmp rfl) (.cons (.tmp rfl) (.nil)))) (fun w hw => ⟨_, _, ?_, rfl, Ret.of (hw.pick [8, 9, 10] (by decide) rfl rfl)⟩)
           exact ⟨3, [], [], .slice none 0 0, .slice none 0 0, [], .inr (.inr (.inr (.inl ⟨hno, hz22, hz21, ⟨x.1 + 1, by rw [hyw] at hc12; omega⟩, rfl, rfl, rfl⟩))), rfl, nilSl, nilSl, rfl, rfl⟩
          ·refine .skip (.block_normal ?_)
           refine AK.then_ (hK34 _ _ ((x.1 + 1, y.2.1, y.2.2)) ⟨by dsimp only; omega, by rw [hyw] at hc12; exact (by dsimp only; omega), fun j hj => by (by_cases e : j = x.1; rw [e]; exact hne; exact hg1.2.2.1 j (by dsimp only at hj; omega)), hg2.2.1, hg2.2.2⟩ (by dsimp only; omega) (slr) (fun w hw => by dsimp only; rw [hyw, hyf] at hw; exact hw.pick [0, 1, 2, 3, 4, 7, 6] (by decide) rfl rfl))
       ·have hem : rlv rs L.toNat x.1 = [] := List.length_eq_zero_iff.1 (by omega)
        have hFw : Few rs L.toNat mon (drp mon (cwl rs L.toNat x.1)) := ⟨x.1, hem, rfl, hg1.2.1⟩
        obtain ⟨ws, hws⟩ : ∃ ws, ws = (drp mon (cwl rs L.toNat x.1)) := ⟨_, rfl⟩
        rw [← hws] at hFw
        have hFl : ws.length ≤ 400 := (by rw [hws]; exact hg1.2.1)
        refine AK.own' [row x.2.1 9 1 (ws).length ((ws).map sv)] (fun w hw => by rw [hws]; exact hw.pick [6] (by decide) rfl rfl) ?_
        refine .exit (.then_exit (.then_exit (.block_exit ?_)))
        refine AK.then_ (hK32 _ ?_)
        refine .sr fun _ hK71 => ?_
        refine AK.makeMap trivial rfl (fun mb => ?_)
        refine .as rfl (.nt hK71 ?_)
        refine .seq fun _ hK72 => ?_
        refine .sr fun _ hK73 => ?_
        refine .mv rfl ?_
        refine .v (.lenR sl53 rfl (by first | exact rdp | exact RdS.view 0 rfl)) ?_
        refine .mv rfl (.nt hK73 (.block ?_))
        refine AK.loopK (X := Nat) [(0, _), (17, _), (24, _), (125, _), (126, _)] (fun m => [(127, .int .i64 (m : Int))]) (fun m => [row x.2.1 9 1 (ws).length ((ws).map sv), mapA mb (mkv sv (Value.int .i64) (nmK ws m))]) (fun m => m ≤ ws.length) (fun m => ws.length - m) (0) slr ?_ ?_ ?_ ?_
        ·exact Nat.zero_le _
        ·exact slr
        ·exact fun w hw => hw
        ·intro m hg4 _ hK74
         refine .sr fun _ hK75 => ?_
         refine .v (.lss rfl rfl) ?_
         refine .nt hK75 ?_
         refine .seq fun _ hK76 => ?_
         refine AK.condD rfl (fun hc13 => ?_) (fun hc13 => ?_)
         ·refine .skip ?_
          refine AK.then_ (hK76 _ ?_)
          refine .seq fun _ hK77 => ?_
          refine .block ?_
          refine .sr fun _ hK78 => ?_
          refine .mv rfl ?_
          first | refine .v (.iN sl53 rfl rfl (hr := (by first | exact rdp | exact RdS.view 0 rfl))) ?_ | refine .v (.iK sl53 rfl rfl (hr := (by first | exact rdp | exact RdS.view 0 rfl))) ?_
          refine .v (.loadS on9 rfl (by first | exact rdp | exact RdS.view 0 rfl) (by omega)) ?_
          refine .as rfl (.as rfl (.nt hK78 ?_))
          refine AK.region ?_
          refine .mv rfl (.mv rfl (.mv rfl ?_))
          refine AK.mapSet 1 (m := nmK ws m) (a := ws.getD m []) (v := (m : Int)) rfl mp76 (keyStr un9) rfl rfl rfl trivial ?_
          refine .nil (.block_normal ?_)
          refine AK.then_ (hK77 _ ?_)
          refine AK.region ?_
          refine .v (.add rfl rfl (by omega)) ?_
          refine .mv rfl (.nil ?_)
          refine AK.then_ (hK74 _ _ (m + 1) (by omega) (by omega) (slr) (fun w hw => hw))
         ·refine .exit (.then_exit (.then_exit (.block_exit ?_)))
          refine AK.then_ (hK72 _ ?_)
          refine .sr fun _ hK79 => ?_
          refine .as rfl (.nt hK79 ?_)
          refine .seq fun _ hK80 => ?_
          refine .sr fun _ hK81 => ?_
          refine .mv rfl ?_
          refine .v (.lenR sl53 rfl (by first | exact rdp | exact RdS.view 0 rfl)) ?_
          refine .mv rfl (.nt hK81 (.block ?_))
          refine AK.loopK (X := Nat × Value × List Value) [(0, _), (17, _), (24, _), (136, _), (137, _)] (fun i => [(27, i.2.1), (138, .int .i64 (i.1 : Int))]) (fun i => [row x.2.1 9 1 (ws).length ((ws).map sv), mapA mb (mkv sv (Value.int .i64) (nmK ws ws.length)), row i.2.1 74 1 i.1 i.2.2, bigA (matG (Value.int .i64) 3 i.2.2 ((tabP rs ws).take i.1))]) (fun i => i.1 ≤ ws.length ∧ i.2.2.length = i.1 ∧ TabOk rs ws i.1 ∧ IsSl i.2.1) (fun i => ws.length - i.1) ((0, .slice none 0 0, [])) slr ?_ ?_ ?_ ?_
          ·exact ⟨Nat.zero_le _, rfl, fun i hi => by omega, nilSl⟩
          ·exact slr
          ·exact fun w hw => by have e : m = ws.length := (by omega); subst e; exact (hw.ghost 74 1).ghostG (f := Value.int .i64) 3
          ·intro i hg5 _ hK82
           have si := hg5.2.2.2
           refine .sr fun _ hK83 => ?_
           refine .v (.lss rfl rfl) ?_
           refine .nt hK83 ?_
           refine .seq fun _ hK84 => ?_
           refine AK.condD rfl (fun hc14 => ?_) (fun hc14 => ?_)
           ·have hUm : (ws.getD i.1 []) ∈ ws := getD_mem (show i.1 < ws.length by omega)
            have hUl := hFw.mem hn6 hUm
            have hUc := hFw.len hUm
            refine .skip ?_
            refine AK.then_ (hK84 _ ?_)
            refine .seq fun _ hK85 => ?_
            refine .block ?_
            refine .sr fun _ hK86 => ?_
            first | refine .v (.iN sl53 rfl rfl (hr := (by first | exact rdp | exact RdS.view 0 rfl))) ?_ | refine .v (.iK sl53 rfl rfl (hr := (by first | exact rdp | exact RdS.view 0 rfl))) ?_
            refine .v (.loadS on9 rfl (by first | exact rdp | exact RdS.view 0 rfl) (by omega)) ?_
            refine .as rfl (.nt hK86 ?_)
            refine .sr fun _ hK87 => ?_
            refine .as rfl (.nt hK87 ?_)
            refine .seq fun _ hK88 => ?_
            refine .sr fun _ hK89 => ?_
            refine .mv rfl ?_
            refine .v (.lenR sl53 rfl (by first | exact rdp | exact RdS.view 0 rfl)) ?_
            refine .mv rfl (.nt hK89 (.block ?_))
            refine AK.loopK (X := Nat × Value) [(0, _), (17, _), (24, _), (27, _), (29, _), (136, _), (137, _), (138, _), (142, _), (143, _)] (fun j => [(30, j.2), (144, .int .i64 (j.1 : Int))]) (fun j => [row x.2.1 9 1 (ws).length ((ws).map sv), mapA mb (mkv sv (Value.int .i64) (nmK ws ws.length)), row i.2.1 74 1 i.1 i.2.2, bigA (matG (Value.int .i64) 3 i.2.2 ((tabP rs ws).take i.1)), row j.2 3 1 j.1 (((rowP rs ws (ws.getD i.1 [])).take j.1).map (Value.int .i64))]) (fun j => j.1 ≤ ws.length ∧ RowOk rs ws (ws.getD i.1 []) j.1 ∧ IsSl j.2) (fun j => ws.length - j.1) ((0, .slice none 0 0)) slr ?_ ?_ ?_ ?_
            ·exact ⟨Nat.zero_le _, fun i hi => by omega, nilSl⟩
            ·exact slr
            ·exact fun w hw => by exact hw.ghost 3 1
            ·intro j hg6 _ hK90
             have sj := hg6.2.2
             refine .sr fun _ hK91 => ?_
             refine .v (.lss rfl rfl) ?_
             refine .nt hK91 ?_
             refine .seq fun _ hK92 => ?_
             refine AK.condD rfl (fun hc15 => ?_) (fun hc15 => ?_)
             ·have hVm : (ws.getD j.1 []) ∈ ws := getD_mem (show j.1 < ws.length by omega)
              have hVl := hFw.mem hn6 hVm
              have hVc := hFw.len hVm
              refine .skip ?_
              refine AK.then_ (hK92 _ ?_)
              refine .seq fun _ hK93 => ?_
              refine .block ?_
              refine .sr fun _ hK94 => ?_
              first | refine .v (.iN sl53 rfl rfl (hr := (by first | exact rdp | exact RdS.view 0 rfl))) ?_ | refine .v (.iK sl53 rfl rfl (hr := (by first | exact rdp | exact RdS.view 0 rfl))) ?_
              refine .v (.loadS on9 rfl (by first | exact rdp | exact RdS.view 0 rfl) (by omega)) ?_
              refine .as rfl (.nt hK94 ?_)
              refine .seq fun _ hK95 => ?_
              refine .sr fun _ hK96 => ?_
              refine .mv rfl ?_
              refine .v (.lenS un9 rfl) ?_
              refine .mv rfl ?_
              refine .v (.lenS un9 rfl) ?_
              refine .v (.add rfl rfl (by omega)) ?_
              refine .v (.gtr rfl rfl) ?_
              refine .nt hK96 ?_
              refine AK.condD rfl (fun hc16 => ?_) (fun hc16 => ?_)
              ·refine .sr fun _ hK97 => ?_
               refine .as rfl (.as rfl (.as rfl (.nt hK97 (.ret (.then_ret (.block_ret (.then_ret (.then_ret (.block_ret (.then_ret (.block_ret ?_)))))))))))
               refine .then_ret (.then_ret (.block_ret (.then_ret ?_)))
               refine AK.own' _ (fun w hw => ((hw.ghost 74 1).ghostG (f := Value.int .i64) 3).viewNil) ?_
               refine AK.retG [.tmp 6, .tmp 7, .tmp 8] rfl (.cons (.tmp rfl) (.cons (.tmp rfl) (.cons (.tmp rfl) (.nil)))) (fun w hw => ⟨_, _, ?_, rfl, Ret.of (hw.pick [5, 6, 7] (by decide) rfl rfl)⟩)
               exact ⟨3, [], [], .slice none 0 0, .slice none 0 0, [], .inr (.inr (.inr (.inr ⟨hno, hz22, hz21, ws, hFw, TabP.bad (i := i.1) (j := j.1) (by omega) (by omega) (by rw [celE_long (by omega)]; decide)⟩))), rfl, nilSl, nilSl, rfl, rfl⟩
              ·have hlen : ¬ 2048 < (ws.getD i.1 []).length + (ws.getD j.1 []).length := (by omega)
               refine .skip ?_
               refine AK.then_ (hK95 _ ?_)
               refine .sr fun _ hK98 => ?_
               refine .mv rfl (.mv rfl (.mv rfl ?_))
               refine .v (.concat rfl rfl (by omega)) ?_
               have hal := app_al hUl hVl hlen
               have hal1 := hal.1
               refine AK.call co19 rfl (fun w hw => s_refreduce w v rs (h0.at hw) L hV ((ws.getD i.1 []) ++ (ws.getD j.1 [])) (by omega)) trivial rfl ?_
               rintro r o ⟨rfl, rfl⟩
               rw [(refV_al hal).1, (refV_al hal).2]
               refine .mv rfl ?_
               refine .v (.extract rfl rfl) ?_
               refine .v (.extract rfl rfl) ?_
               refine .as rfl (.as rfl (.nt hK98 ?_))
               refine .seq fun _ hK99 => ?_
               refine .sr fun _ hK100 => ?_
               refine .mv rfl ?_
               refine .v (.neq rfl rfl) ?_
               refine .nt hK100 ?_
               refine AK.condNe rfl (fun hc17 => ?_) (fun hc17 => ?_)
               ·refine .sr fun _ hK101 => ?_
                refine .mv rfl (.as rfl (.as rfl (.as rfl (.nt hK101 (.ret (.then_ret (.block_ret (.then_ret (.then_ret (.block_ret (.then_ret ?_)))))))))))
                refine .block_ret (.then_ret (.then_ret (.block_ret (.then_ret ?_))))
                refine AK.own' _ (fun w hw => ((hw.ghost 74 1).ghostG (f := Value.int .i64) 3).viewNil) ?_
                refine AK.retG [.tmp 6, .tmp 7, .tmp 8] rfl (.cons (.tmp rfl) (.cons (.tmp rfl) (.cons (.tmp rfl) (.nil)))) (fun w hw => ⟨_, _, ?_, rfl, Ret.of (hw.pick [5, 6, 7] (by decide) rfl rfl)⟩)
                have h3 := redE_3 (rs := rs) (u := ((ws.getD i.1 []) ++ (ws.getD j.1 []))) (by assumption)
                rw [h3]
                exact ⟨3, [], [], .slice none 0 0, .slice none 0 0, [], .inr (.inr (.inr (.inr ⟨hno, hz22, hz21, ws, hFw, TabP.bad (i := i.1) (j := j.1) (by omega) (by omega) (by rw [celE_red hlen, h3]; decide)⟩))), rfl, nilSl, nilSl, rfl, rfl⟩
               ·refine .skip ?_
                refine AK.then_ (hK99 _ ?_)
                refine AK.region ?_
                refine .mv rfl (.mv rfl (.mv rfl ?_))
                refine .v (.lookup1I mp76 (keyStr un9) el3 rfl rfl msp) ?_
                refine AK.append1 4 rfl sl74 el3 rfl (by decide) rfl (by intro k hk; cases hk; rfl) rfl (by intro u hu; simp [Value.cells] at hu; subst hu; rfl) (by omega) (by omega) (by decide) rfl rfl (fun ra _ hra => ?_)
                refine .as rfl (.nil (.block_normal ?_))
                refine AK.then_ (hK93 _ ?_)
                refine AK.region ?_
                refine .v (.add rfl rfl (by omega)) ?_
                refine .mv rfl (.nil ?_)
                refine AK.then_ (hK90 _ _ ((j.1 + 1, ra)) ⟨by dsimp only; omega, row_next hg6.2.1 (by rw [celE_red hlen]; omega), hra⟩ (by dsimp only; omega) (slr) (fun w hw => by dsimp only; rw [take_snocD 0 (rowP rs ws (ws.getD i.1 [])) j.1 (by rw [rowP_len]; omega), rowP_get (by omega), map_snoc]; exact hw.pick [0, 1, 2, 3, 4] (by decide) rfl rfl))
             ·have hje : j.1 = ws.length := (by omega)
              have sr6 := hg6.2.2
              refine .exit (.then_exit (.then_exit (.block_exit ?_)))
              refine AK.then_ (hK88 _ ?_)
              refine AK.region ?_
              refine .mv rfl (.mv rfl ?_)
              refine AK.append1 2 rfl sl34 el74 rfl (by decide) rfl (by intro k hk; cases hk; rfl) (by rw [sr6.cells]; rfl) (by rw [sr6.cells]; exact one'_cons sr6.one one'_nil) (by omega) (by omega) (by decide) rfl rfl (fun ta _ hta => ?_)
              refine .as rfl (.nil (.block_normal ?_))
              refine AK.then_ (hK85 _ ?_)
              refine AK.region ?_
              refine .v (.add rfl rfl (by omega)) ?_
              refine .mv rfl (.nil ?_)
              refine AK.then_ (hK82 _ _ ((i.1 + 1, ta, i.2.2 ++ [j.2])) ⟨by dsimp only; omega, by dsimp only; rw [List.length_append, hg5.2.1]; rfl, tab_next hg5.2.2.1 (by rw [← hje]; exact hg6.2.1), hta⟩ (by dsimp only; omega) (slr) (fun w hw => by
  dsimp only
  rw [show j.2.cells.toList = [j.2] by rw [sr6.cells]] at hw
  rw [hje, show (rowP rs ws (ws.getD i.1 [])).take ws.length = rowP rs ws (ws.getD i.1 []) from List.take_of_length_le (by rw [rowP_len]; exact Nat.le_refl _)] at hw
  rw [tabP_snoc (by omega), matG_snoc (by rw [List.length_take, tabP_len, hg5.2.1]; omega), rowP_len]
  exact HW.absorb (own := [_, _, _, _]) 3 rfl hw))
           ·refine .exit (.then_exit (.then_exit (.block_exit ?_)))
            refine AK.then_ (hK80 _ ?_)
            refine .sr fun _ hK102 => ?_
            refine .mv rfl (.mv rfl (.as rfl (.as rfl (.as rfl (.nt hK102 (.ret ?_))))))
            refine AK.view0 0 rfl ?_
            refine AK.retG [.tmp 6, .tmp 7, .tmp 8] rfl (.cons (.tmp rfl) (.cons (.tmp rfl) (.cons (.tmp rfl) (.nil)))) (fun w hw => ⟨_, _, ?_, rfl, Ret.of (hw.pick [2, 3, 0] (by decide) rfl rfl)⟩)
            have e : i.1 = ws.length := (by omega)
            have ht : (tabP rs ws).take i.1 = tabP rs ws := List.take_of_length_le (by rw [tabP_len]; omega)
            refine ⟨0, ws, tabP rs ws, i.2.1, x.2.1, i.2.2, .inr (.inr (.inr (.inr ⟨hno, hz22, hz21, ws, hFw, .inl ⟨by rw [← e]; exact hg5.2.2.1, rfl, rfl, rfl⟩⟩))), rfl, hg5.2.2.2, hg1.2.2.2.1, by rw [hg5.2.1, tabP_len]; exact e, ?_⟩
            show [row i.2.1 74 1 i.1 i.2.2, bigA (matG (Value.int .i64) 3 i.2.2 ((tabP rs ws).take i.1)), view x.2.1 1 ws.length (ws.map sv)] = _
            rw [ht, e, tabP_len]

end Go.Proofs.Ytaeojcaidcjnaaa
