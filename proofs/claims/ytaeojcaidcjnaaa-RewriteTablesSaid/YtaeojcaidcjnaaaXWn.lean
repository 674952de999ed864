import Derived.Test.YtaeojcaidcjnaaaXWm
import Derived.Test.YtaeojcaidcjnaaaXRR
set_option linter.unusedVariables false
set_option linter.unusedSimpArgs false
namespace Go.Proofs.Ytaeojcaidcjnaaa
open Go.Sx Go.RowKit
set_option maxHeartbeats 3000000 in
set_option maxRecDepth 100000 in
theorem s_products (w : World) (v : Value) (rs : List Rul) (h : RdR (fun _ => False) w v rs) (hll : ∀ k, k < rs.length → (rs.getD k ([], [])).1.length ≤ 9223372036854775807 ∧ (rs.getD k ([], [])).2.length ≤ 9223372036854775807) (hV : VR 6 rs) (wv : Value) (ws : List Wrd) (hws : RdL (fun _ => False) sv w wv ws) (hlt : ∀ u ∈ ws, Lt u) (hwl : ∀ u ∈ ws, u.length ≤ 400) (hwn : ws.length ≤ 400) : CallS Try.prog 48 [v, wv] w (fun r o => ∃ (e : Int) (vs : List Wrd) (t : List (List Int)) (q1 q2 : Value) (rvs : List Value), TabP rs ws e vs t ∧ r = .tuple #[q1, q2, .int .i64 e] ∧ (e = 0 → q2 = wv) ∧ (e ≠ 0 → q2 = .slice none 0 0) ∧ IsSl q1 ∧ rvs.length = t.length ∧ o = [row q1 74 1 t.length rvs, bigA (matG (Value.int .i64) 3 rvs t)]) := by
 have h0 := h
 have hb := h.len
 have sv0 := Rd.sl h
 unfold RdR at h
 have hrn := hV.n
 unfold RdL at hws
 refine spec_of Try.func48 rfl (Nat.le_of_ble_eq_true rfl) ?_
 refine .sr fun _ hK1 => ?_
 refine .as rfl (.as rfl (.as rfl (.nt hK1 ?_)))
 refine .sr fun _ hK2 => ?_
 refine AK.makeMap trivial rfl (fun mb => ?_)
 refine .as rfl (.nt hK2 ?_)
 refine .seq fun _ hK3 => ?_
 refine .sr fun _ hK4 => ?_
 refine .mv rfl ?_
 refine .v (.lenR sl53 rfl rdp) ?_
 refine .mv rfl (.nt hK4 (.block ?_))
 refine AK.loopK (X := Nat) [(0, _), (1, _), (7, _), (19, _), (20, _)] (fun k => [(21, .int .i64 (k : Int))]) (fun k => [mapA mb (mkv sv (Value.int .i64) (nmK ws k))]) (fun k => k ≤ ws.length) (fun k => ws.length - k) (0) slr ?_ ?_ ?_ ?_
 ·exact Nat.zero_le _
 ·exact slr
 ·exact fun w hw => hw
 ·intro k hg0 _ hK5
  refine .sr fun _ hK6 => ?_
  refine .v (.lss rfl rfl) ?_
  refine .nt hK6 ?_
  refine .seq fun _ hK7 => ?_
  refine AK.condD rfl (fun hc0 => ?_) (fun hc0 => ?_)
  ·refine .skip ?_
   refine AK.then_ (hK7 _ ?_)
   refine .seq fun _ hK8 => ?_
   refine .block ?_
   refine .sr fun _ hK9 => ?_
   refine .mv rfl ?_
   first | refine .v (.iN sl53 rfl rfl) ?_ | refine .v (.iK sl53 rfl rfl) ?_
   refine .v (.loadS on9 rfl rdp (by omega)) ?_
   refine .as rfl (.as rfl (.nt hK9 ?_))
   refine AK.region ?_
   refine .mv rfl (.mv rfl (.mv rfl ?_))
   refine AK.mapSet 0 (m := nmK ws k) (a := ws.getD k []) (v := (k : Int)) rfl mp76 (keyStr un9) rfl rfl rfl trivial ?_
   refine .nil (.block_normal ?_)
   refine AK.then_ (hK8 _ ?_)
   refine AK.region ?_
   refine .v (.add rfl rfl (by omega)) ?_
   refine .mv rfl (.nil ?_)
   refine AK.then_ (hK5 _ _ (k + 1) (by omega) (by omega) (slr) (fun w hw => hw))
  ·refine .exit (.then_exit (.then_exit (.block_exit ?_)))
   refine AK.then_ (hK3 _ ?_)
   refine .sr fun _ hK10 => ?_
   refine .mv rfl ?_
   refine AK.call co38 rfl (fun w hw => s_newreducer w v rs (h0.at hw) hll 6 2048 hV) trivial rfl ?_
   rintro r o ⟨bf, vn, vf, N, fl, fd, hF, hN, rfl, rfl⟩
   refine AK.alloc el62 rfl rfl trivial rfl (fun bx10 => ?_)
   refine AK.storeBox 4 (us := [v, .pointer (some ⟨bf, 0, none⟩)]) (cs' := [v, .pointer (some ⟨bf, 0, none⟩)]) rfl sz62 rfl rfl rfl rfl (by first | exact two_one sv0 | exact oneP) (Nat.le_of_ble_eq_true rfl) rfl trivial ?_
   refine .nt hK10 ?_
   refine .sr fun _ hK11 => ?_
   refine .mv rfl ?_
   refine .v (.lenR sl53 rfl rdp) ?_
   refine AK.make1 (n := ws.length) sl34 el74 rfl rfl rfl (by omega) (by omega) trivial rfl (fun tv => ?_)
   refine AK.shape (v := tv) 5 rfl (fun stv => ?_)
   refine .as rfl (.nt hK11 ?_)
   refine .seq fun _ hK12 => ?_
   refine .sr fun _ hK13 => ?_
   refine .mv rfl ?_
   refine .v (.lenR sl53 rfl rdp) ?_
   refine .mv rfl (.nt hK13 (.block ?_))
   refine AK.loopK (X := Nat × List Value) [(1, _), (7, _), (10, _), (11, _), (35, _), (36, _)] (fun x => [(37, .int .i64 (x.1 : Int))]) (fun x => [mapA mb (mkv sv (Value.int .i64) (nmK ws ws.length)), box bf 72 2 [vn, vf], row vn 73 6 N.length (fl.map (Value.int .i32)), row vf 21 1 N.length (fd.map (Value.int .i32)), box bx10 62 2 [v, .pointer (some ⟨bf, 0, none⟩)], row tv 74 1 ws.length (x.2 ++ List.replicate (ws.length - x.1) (.slice none 0 0)), bigA (matG (Value.int .i64) 3 x.2 ((tabP rs ws).take x.1))]) (fun x => x.1 ≤ ws.length ∧ x.2.length = x.1 ∧ TabOk rs ws x.1) (fun x => ws.length - x.1) ((0, [])) slr ?_ ?_ ?_ ?_
   ·exact ⟨Nat.zero_le _, rfl, fun i hi => by omega⟩
   ·exact slr
   ·exact fun w hw => by have e : k = ws.length := (by omega); subst e; dsimp only; rw [Nat.sub_zero, List.nil_append]; exact hw.ghostG (f := Value.int .i64) 3
   ·intro x hg1 _ hK14
    refine .sr fun _ hK15 => ?_
    refine .v (.lss rfl rfl) ?_
    refine .nt hK15 ?_
    refine .seq fun _ hK16 => ?_
    refine AK.condD rfl (fun hc1 => ?_) (fun hc1 => ?_)
    ·have hUm : (ws.getD x.1 []) ∈ ws := getD_mem (show x.1 < ws.length by omega)
     have hUl := hlt _ hUm
     have hUc := hwl _ hUm
     refine .skip ?_
     refine AK.then_ (hK16 _ ?_)
     refine .seq fun _ hK17 => ?_
     refine .block ?_
     refine .sr fun _ hK18 => ?_
     refine .mv rfl ?_
     first | refine .v (.iN sl53 rfl rfl) ?_ | refine .v (.iK sl53 rfl rfl) ?_
     refine .v (.loadS on9 rfl rdp (by omega)) ?_
     refine .as rfl (.as rfl (.nt hK18 ?_))
     refine .sr fun _ hK19 => ?_
     refine .mv rfl (.mv rfl (.mv rfl ?_))
     refine .v (.lenR sl53 rfl rdp) ?_
     refine AK.make1 (n := ws.length) sl74 el3 rfl rfl rfl (by omega) (by omega) trivial rfl (fun rv => ?_)
     refine AK.shape (v := rv) 7 rfl (fun srv => ?_)
     first | refine .v (.iN sl34 rfl rfl) ?_ | refine .v (.iK sl34 rfl rfl) ?_
     refine AK.store1e 5 rfl sz74 rfl rfl srv.cells srv.one (by omega) (cs' := ((x.2 ++ [rv]) ++ List.replicate (ws.length - (x.1 + 1)) (.slice none 0 0))) (fillV hg1.2.1 (by omega)) trivial ?_
     refine .nt hK19 ?_
     refine .sr fun _ hK20 => ?_
     refine .mv rfl ?_
     refine .v (.lenR sl53 rfl rdp) ?_
     refine .mv rfl (.nt hK20 (.block ?_))
     refine AK.loopK (X := Nat) [(1, _), (7, _), (10, _), (11, _), (12, _), (13, _), (35, _), (36, _), (37, _), (48, _), (49, _)] (fun j => [(50, .int .i64 (j : Int))]) (fun j => [mapA mb (mkv sv (Value.int .i64) (nmK ws ws.length)), box bf 72 2 [vn, vf], row vn 73 6 N.length (fl.map (Value.int .i32)), row vf 21 1 N.length (fd.map (Value.int .i32)), box bx10 62 2 [v, .pointer (some ⟨bf, 0, none⟩)], row tv 74 1 ws.length ((x.2 ++ [rv]) ++ List.replicate (ws.length - (x.1 + 1)) (.slice none 0 0)), bigA (matG (Value.int .i64) 3 x.2 ((tabP rs ws).take x.1)), row rv 3 1 ws.length ((rowK rs ws (ws.getD x.1 []) j).map (Value.int .i64))]) (fun j => j ≤ ws.length ∧ RowOk rs ws (ws.getD x.1 []) j) (fun j => ws.length - j) (0) slr ?_ ?_ ?_ ?_
     ·exact ⟨Nat.zero_le _, fun i hi => by omega⟩
     ·exact slr
     ·exact fun w hw => by rw [show (rowK rs ws (ws.getD x.1 []) 0).map (Value.int .i64) = List.replicate ws.length (.int .i64 0) by simp [rowK]]; exact hw
     ·intro j hg2 _ hK21
      refine .sr fun _ hK22 => ?_
      refine .v (.lss rfl rfl) ?_
      refine .nt hK22 ?_
      refine .seq fun _ hK23 => ?_
      refine AK.condD rfl (fun hc2 => ?_) (fun hc2 => ?_)
      ·have hVm : (ws.getD j []) ∈ ws := getD_mem (show j < ws.length by omega)
       have hVl := hlt _ hVm
       have hVc := hwl _ hVm
       refine .skip ?_
       refine AK.then_ (hK23 _ ?_)
       refine .seq fun _ hK24 => ?_
       refine .block ?_
       refine .sr fun _ hK25 => ?_
       refine .mv rfl ?_
       first | refine .v (.iN sl53 rfl rfl) ?_ | refine .v (.iK sl53 rfl rfl) ?_
       refine .v (.loadS on9 rfl rdp (by omega)) ?_
       refine .as rfl (.as rfl (.nt hK25 ?_))
       refine .seq fun _ hK26 => ?_
       refine .sr fun _ hK27 => ?_
       refine .mv rfl ?_
       refine .v (.lenS un9 rfl) ?_
       refine .mv rfl ?_
       refine .v (.lenS un9 rfl) ?_
       refine .v (.add rfl rfl (by omega)) ?_
       refine .v (.gtr rfl rfl) ?_
       refine .nt hK27 ?_
       refine AK.condD rfl (fun hc3 => ?_) (fun hc3 => ?_)
       ·refine .sr fun _ hK28 => ?_
        refine .as rfl (.as rfl (.as rfl (.nt hK28 (.ret (.then_ret (.block_ret (.then_ret (.then_ret (.block_ret (.block_ret (.then_ret ?_)))))))))))
        refine .then_ret (.block_ret (.then_ret ?_))
        refine AK.own' _ (fun w hw => (hw.ghost 74 1).ghostG (f := Value.int .i64) 3) ?_
        refine AK.retG [.tmp 4, .tmp 5, .tmp 6] rfl (.cons (.tmp rfl) (.cons (.tmp rfl) (.cons (.tmp rfl) (.nil)))) (fun w hw => ⟨_, _, ?_, rfl, Ret.of (hw.pick [8, 9] (by decide) rfl rfl)⟩)
        exact ⟨3, [], [], .slice none 0 0, .slice none 0 0, [], TabP.bad (i := x.1) (j := j) (by omega) (by omega) (by rw [celE_long (by omega)]; decide), rfl, (fun h => absurd h (by decide)), (fun _ => rfl), nilSl, rfl, rfl⟩
       ·have hlen : ¬ 2048 < (ws.getD x.1 []).length + (ws.getD j []).length := (by omega)
        refine .skip ?_
        refine AK.then_ (hK26 _ ?_)
        refine .sr fun _ hK29 => ?_
        refine .v (.loadBoxG ag62 rfl bsp rfl rfl) ?_
        refine .mv rfl (.mv rfl ?_)
        refine .v (.concat rfl rfl (by omega)) ?_
        have hal := app_al hUl hVl hlen
        have hal1 := hal.1
        refine AK.call co39 rfl (fun w hw => s_reduce w ((ws.getD x.1 []) ++ (ws.getD j [])) hal bf v vn vf N fl fd 2048 6 rs hV hF hN (BxA.own 1 hw rfl) (Rd.ownG 2 hw rfl) (Rd.ownG 3 hw rfl) (h0.at hw) hal1 (Nat.le_refl _)) trivial rfl ?_
        rintro r o ⟨rfl, rfl⟩
        refine .mv rfl ?_
        refine .v (.extract rfl rfl) ?_
        refine .v (.extract rfl rfl) ?_
        refine .as rfl (.as rfl (.nt hK29 ?_))
        refine .seq fun _ hK30 => ?_
        refine .sr fun _ hK31 => ?_
        refine .mv rfl ?_
        refine .v (.neq rfl rfl) ?_
        refine .nt hK31 ?_
        refine AK.condNe rfl (fun hc4 => ?_) (fun hc4 => ?_)
        ·refine .sr fun _ hK32 => ?_
         refine .mv rfl (.as rfl (.as rfl (.as rfl (.nt hK32 (.ret (.then_ret (.block_ret (.then_ret (.then_ret (.block_ret (.block_ret ?_)))))))))))
         refine .then_ret (.then_ret (.block_ret (.then_ret ?_)))
         refine AK.own' _ (fun w hw => (hw.ghost 74 1).ghostG (f := Value.int .i64) 3) ?_
         refine AK.retG [.tmp 4, .tmp 5, .tmp 6] rfl (.cons (.tmp rfl) (.cons (.tmp rfl) (.cons (.tmp rfl) (.nil)))) (fun w hw => ⟨_, _, ?_, rfl, Ret.of (hw.pick [8, 9] (by decide) rfl rfl)⟩)
         have h3 := redE_3 (rs := rs) (u := ((ws.getD x.1 []) ++ (ws.getD j []))) (by assumption)
         rw [h3]
         exact ⟨3, [], [], .slice none 0 0, .slice none 0 0, [], TabP.bad (i := x.1) (j := j) (by omega) (by omega) (by rw [celE_red hlen, h3]; decide), rfl, (fun h => absurd h (by decide)), (fun _ => rfl), nilSl, rfl, rfl⟩
        ·refine .skip ?_
         refine AK.then_ (hK30 _ ?_)
         refine AK.stillTail 9 mixed krf (fun _ hws => ?_)
         refine .v hws (.move rfl) ?_
         refine .v hws (.move rfl) ?_
         first | refine .v hws (.iN sl34 rfl rfl) ?_ | refine .v hws (.iK sl34 rfl rfl) ?_
         refine SK.val hws rv (Yl.valE (Yl.loadV on74 rfl rdp (by rw [List.length_append, List.length_append, List.length_singleton, hg1.2.1]; omega)) (fillV_get hg1.2.1)) trivial rfl ?_
         refine .v hws (.move rfl) ?_
         refine .v hws (.move rfl) ?_
         refine .v hws (.move rfl) ?_
         refine .v hws (.lookup1I mp76 (keyStr un9) el3 rfl rfl msp) ?_
         first | refine .v hws (.iN sl74 rfl rfl) ?_ | refine .v hws (.iK sl74 rfl rfl) ?_
         refine SK.nil (SK.fin hws ?_)
         refine AK.store1e 7 rfl sz3 rfl rfl rfl rfl (by omega) (cs' := ((rowK rs ws (ws.getD x.1 []) (j + 1)).map (Value.int .i64))) (rowK_set (by omega)) trivial ?_
         refine .nil (.block_normal ?_)
         refine AK.then_ (hK24 _ ?_)
         refine AK.region ?_
         refine .v (.add rfl rfl (by omega)) ?_
         refine .mv rfl (.nil ?_)
         refine AK.then_ (hK21 _ _ (j + 1) ⟨by omega, row_next hg2.2 (by rw [celE_red hlen]; omega)⟩ (by omega) (slr) (fun w hw => hw))
      ·have hje : j = ws.length := (by omega)
       refine .exit (.then_exit (.then_exit (.block_exit (.block_normal ?_))))
       refine AK.then_ (hK17 _ ?_)
       refine AK.region ?_
       refine .v (.add rfl rfl (by omega)) ?_
       refine .mv rfl (.nil ?_)
       refine AK.then_ (hK14 _ _ ((x.1 + 1, x.2 ++ [rv])) ⟨by dsimp only; omega, by dsimp only; rw [List.length_append, hg1.2.1]; rfl, tab_next hg1.2.2 (by rw [← hje]; exact hg2.2)⟩ (by dsimp only; omega) (slr) (fun w hw => by
  dsimp only
  rw [hje, rowK_full] at hw
  rw [tabP_snoc (by omega), matG_snoc (by rw [List.length_take, tabP_len, hg1.2.1]; omega), rowP_len]
  exact HW.absorb (own := [_, _, _, _, _, _, _]) 6 rfl hw))
    ·refine .exit (.then_exit (.then_exit (.block_exit ?_)))
     refine AK.then_ (hK12 _ ?_)
     refine .sr fun _ hK33 => ?_
     refine .mv rfl (.mv rfl (.as rfl (.as rfl (.as rfl (.nt hK33 (.ret ?_))))))
     refine AK.retG [.tmp 4, .tmp 5, .tmp 6] rfl (.cons (.tmp rfl) (.cons (.tmp rfl) (.cons (.tmp rfl) (.nil)))) (fun w hw => ⟨_, _, ?_, rfl, Ret.of (hw.pick [5, 6] (by decide) rfl rfl)⟩)
     have e : x.1 = ws.length := (by omega)
     have ht : (tabP rs ws).take x.1 = tabP rs ws := List.take_of_length_le (by rw [tabP_len]; omega)
     refine ⟨0, ws, tabP rs ws, tv, wv, x.2, .inl ⟨by rw [← e]; exact hg1.2.2, rfl, rfl, rfl⟩, rfl, fun _ => rfl, fun h => absurd rfl h, stv, by rw [hg1.2.1, tabP_len]; exact e, ?_⟩
     show [row tv 74 1 ws.length (x.2 ++ List.replicate (ws.length - x.1) (.slice none 0 0)), bigA (matG (Value.int .i64) 3 x.2 ((tabP rs ws).take x.1))] = _
     rw [ht, e, Nat.sub_self, List.replicate_zero, List.append_nil, tabP_len]

end Go.Proofs.Ytaeojcaidcjnaaa
