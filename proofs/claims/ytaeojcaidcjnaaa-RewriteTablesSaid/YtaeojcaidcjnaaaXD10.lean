import Derived.Test.YtaeojcaidcjnaaaXD9
set_option linter.unusedVariables false
set_option linter.unusedSimpArgs false
namespace Go.Proofs.Ytaeojcaidcjnaaa
open Go.Sx Go.RowKit
theorem beq_take {xs ys : List Int} (hl : xs.length = ys.length) (k : Nat) (hk : k < xs.length) (h : xs.take k = ys.take k) : xs.take (k + 1) = ys.take (k + 1) ↔ xs.getD k 0 = ys.getD k 0 := by
  rw [take_snocD 0 xs k hk, take_snocD 0 ys k (by omega), h]
  simp

set_option maxRecDepth 100000 in
theorem s_same (w : World) (u v : Value) (xs ys : List Int) (hu : RdI w u xs) (hv : RdI w v ys) (hb : xs.length ≤ 9223372036854775807) : CallS Try.prog 50 [u, v] w (fun r o => r = .bool (decide (xs = ys)) ∧ o = []) := by
 unfold RdI at hu hv
 refine spec_of Try.func50 rfl (Nat.le_of_ble_eq_true rfl) ?_
 refine .sr fun _ hK1 => ?_
 refine .as rfl (.nt hK1 ?_)
 refine .seq fun _ hK2 => ?_
 refine .sr fun _ hK3 => ?_
 refine .mv rfl ?_
 refine .v (.lenR sl74 rfl rdp) ?_
 refine .mv rfl ?_
 refine .v (.lenR sl74 rfl rdp) ?_
 refine .v (.neq rfl rfl) ?_
 refine .nt hK3 ?_
 refine AK.condNe rfl (fun hc0 => ?_) (fun hc0 => ?_)
 ·refine .sr fun _ hK4 => ?_
  refine .as rfl (.nt hK4 (.ret (.then_ret ?_)))
  refine AK.ret1 rfl rfl (fun w hw => ⟨_, _, ?_, rfl, Ret.of (hw.pick [] (by decide) rfl rfl)⟩)
  exact ⟨by simp; intro e; subst e; omega, rfl⟩
 ·refine .skip ?_
  refine AK.then_ (hK2 _ ?_)
  refine .seq fun _ hK5 => ?_
  refine .sr fun _ hK6 => ?_
  refine .mv rfl ?_
  refine .v (.lenR sl74 rfl rdp) ?_
  refine .mv rfl (.nt hK6 (.block ?_))
  refine AK.loopK (X := Nat) [(0, _), (1, _), (12, _)] (fun k => [(13, .int .i64 (k : Int))]) (fun k => []) (fun k => k ≤ xs.length ∧ xs.length = ys.length ∧ xs.take k = ys.take k) (fun k => xs.length - k) (0) slr ?_ ?_ ?_ ?_
  ·exact ⟨Nat.zero_le _, by omega, by simp⟩
  ·exact slr
  ·exact fun w hw => hw
  ·intro k hg0 _ hK7
   obtain ⟨hk, hl, ht⟩ := hg0
   refine .sr fun _ hK8 => ?_
   refine .v (.lss rfl rfl) ?_
   refine .nt hK8 ?_
   refine .seq fun _ hK9 => ?_
   refine AK.condD rfl (fun hc1 => ?_) (fun hc1 => ?_)
   ·refine .skip ?_
    refine AK.then_ (hK9 _ ?_)
    refine .seq fun _ hK10 => ?_
    refine .block ?_
    refine .sr fun _ hK11 => ?_
    refine .mv rfl (.as rfl (.nt hK11 ?_))
    refine .seq fun _ hK12 => ?_
    refine AK.quiet mixed krf ?_
    refine .mv rfl (.mv rfl ?_)
    first | refine .v (.iN sl74 rfl rfl) ?_ | refine .v (.iK sl74 rfl rfl) ?_
    refine .v (.loadI on3 rfl rdp (by omega)) ?_
    refine .mv rfl (.mv rfl ?_)
    first | refine .v (.iN sl74 rfl rfl) ?_ | refine .v (.iK sl74 rfl rfl) ?_
    refine .v (.loadI on3 rfl rdp (by omega)) ?_
    refine .v (.neq rfl rfl) ?_
    refine QK.nil (QK.fin ?_)
    refine AK.then_ (hK12 _ ?_)
    refine AK.condNe rfl (fun hc2 => ?_) (fun hc2 => ?_)
    ·refine .sr fun _ hK13 => ?_
     refine .as rfl (.nt hK13 (.ret (.block_ret (.then_ret (.then_ret (.block_ret (.then_ret ?_)))))))
     refine AK.ret1 rfl rfl (fun w hw => ⟨_, _, ?_, rfl, Ret.of (hw.pick [] (by decide) rfl rfl)⟩)
     exact ⟨by simp; intro e; subst e; simp at *, rfl⟩
    ·refine .skip (.block_normal ?_)
     refine AK.then_ (hK10 _ ?_)
     refine AK.region ?_
     refine .v (.add rfl rfl (by omega)) ?_
     refine .mv rfl (.nil ?_)
     refine AK.then_ (hK7 _ _ (k + 1) ⟨by omega, by omega, (beq_take hl k (by omega) ht).2 (by assumption)⟩ (by omega) (slr) (fun w hw => hw))
   ·refine .exit (.then_exit (.then_exit (.block_exit ?_)))
    refine AK.then_ (hK5 _ ?_)
    refine .sr fun _ hK14 => ?_
    refine .as rfl (.nt hK14 (.ret ?_))
    refine AK.ret1 rfl rfl (fun w hw => ⟨_, _, ?_, rfl, Ret.of (hw.pick [] (by decide) rfl rfl)⟩)
    have : k = xs.length := by omega
    subst this
    exact ⟨by simp; rw [List.take_length, hl, List.take_length] at ht; exact ht, rfl⟩

set_option maxHeartbeats 4000000 in
set_option maxRecDepth 100000 in
theorem s_reftrim (w : World) (v : Value) (d : Dfa) (h : RdD (fun _ => False) w v d) (hv : VD d) : CallS Try.prog 61 [v] w (fun r o => ∃ (vF vN vM : Value) (rs : List Value), r = .tuple #[.agg #[.int .i64 (trimD d).L, .int .i64 (trimD d).s, vF, vN], vM] ∧ rs.length = (trimD d).nx.length ∧ IsSl vF ∧ IsSl vN ∧ IsSl vM ∧ o = dfaO 4 3 74 vF vN rs (trimD d) ++ [row vM 3 1 (numT d).length ((numT d).map (Value.int .i64))]) := by
 have h0 := h
 obtain ⟨vF, vN, rfl, hF, hN⟩ := h
 have hF0 := hF
 have hN0 := hN
 obtain ⟨rs, hrl, hNr, hNi⟩ := hN
 have sF := hF.sl
 have sN := hNr.sl
 have hmf := hF.le
 have hmn := hNr.le
 unfold RdL at hF
 have hvL := hv.L
 have hnx := hv.nx
 have hn5 := hv.n
 obtain ⟨tk1, tk2, tk3, tk4⟩ := TSt_ok hv
 have hnl : (numT d).length = d.fin.length := numK_len _ _ _
 refine spec_of Try.func61 rfl (Nat.le_of_ble_eq_true rfl) ?_
 refine .sr fun _ hK1 => ?_
 refine AK.box_ (E := 36) (cs := [.int .i64 d.L, .int .i64 d.s, vF, vN]) rfl rfl rfl trivial rfl (fun bx1 => ?_)
 refine AK.alloc el36 rfl rfl trivial rfl (fun bx2 => ?_)
 refine .as rfl (.nt hK1 ?_)
 refine .sr fun _ hK2 => ?_
 refine .v (.loadBoxG ag36 rfl bsp rfl rfl) ?_
 refine AK.call co66 rfl (fun w hw => s_refaccess w _ d (h0.at hw) hv) trivial rfl ?_
 rintro r o ⟨vs, vw, svs, svw, rfl, rfl⟩
 refine .mv rfl ?_
 refine .v (.extract rfl rfl) ?_
 refine .v (.extract rfl rfl) ?_
 refine .as rfl (.as rfl (.nt hK2 ?_))
 refine .sr fun _ hK3 => ?_
 refine .v (.fieldAddr fd36_2 rfl) ?_
 refine .v (.loadBox on33 rfl bsp rfl) ?_
 refine .v (.lenR sl33 rfl (by first | exact rdp | exact .arg (hNi _ (by omega)))) ?_
 refine AK.make1 (n := d.fin.length) sl74 el3 rfl rfl rfl (by omega) (by omega) trivial rfl (fun mv => ?_)
 refine .as rfl (.nt hK3 ?_)
 refine .seq fun _ hK4 => ?_
 refine .sr fun _ hK5 => ?_
 refine .mv rfl ?_
 refine .v (.lenR sl74 rfl (by first | exact rdp | exact .arg (hNi _ (by omega)))) ?_
 refine .mv rfl (.nt hK5 (.block ?_))
 refine AK.loopK (X := Nat) [(1, _), (2, _), (4, _), (6, _), (26, _)] (fun k => [(27, .int .i64 (k : Int))]) (fun k => [box bx1 36 4 [.int .i64 d.L, .int .i64 d.s, vF, vN], box bx2 36 4 [.int .i64 0, .int .i64 0, .slice none 0 0, .slice none 0 0], row vs 3 1 (TSt d).length ((TSt d).map (Value.int .i64)), row vw 9 1 (TWo d).length ((TWo d).map sv), row mv 3 1 d.fin.length ((List.replicate k (-1) ++ List.replicate (d.fin.length - k) (0 : Int)).map (Value.int .i64))]) (fun k => k ≤ d.fin.length) (fun k => d.fin.length - k) (0) slr ?_ ?_ ?_ ?_
 ·exact Nat.zero_le _
 ·exact slr
 ·exact fun w hw => by have e : ((List.replicate 0 (-1) ++ List.replicate (d.fin.length - 0) (0 : Int)).map (Value.int .i64)) = List.replicate d.fin.length (Value.int .i64 0) := (by simp); rw [e]; exact hw
 ·intro k hg0 _ hK6
  refine .sr fun _ hK7 => ?_
  refine .v (.lss rfl rfl) ?_
  refine .nt hK7 ?_
  refine .seq fun _ hK8 => ?_
  refine AK.condD rfl (fun hc0 => ?_) (fun hc0 => ?_)
  ·refine .skip ?_
   refine AK.then_ (hK8 _ ?_)
   refine .seq fun _ hK9 => ?_
   refine .block ?_
   refine .sr fun _ hK10 => ?_
   refine .mv rfl (.as rfl (.nt hK10 ?_))
   refine AK.region ?_
   refine .mv rfl (.mv rfl ?_)
   first | refine .v (.iN sl74 rfl rfl (hr := (by first | exact rdp | exact .arg (hNi _ (by omega))))) ?_ | refine .v (.iK sl74 rfl rfl (hr := (by first | exact rdp | exact .arg (hNi _ (by omega))))) ?_
   refine AK.store1e 4 rfl sz3 rfl rfl rfl rfl (by omega) (cs' := ((List.replicate (k + 1) (-1) ++ List.replicate (d.fin.length - (k + 1)) (0 : Int)).map (Value.int .i64))) (by rw [List.replicate_succ']; exact fill_set (Value.int .i64) (List.replicate k (-1)) 0 (-1) d.fin.length k (by simp) (by omega)) trivial ?_
   refine .nil (.block_normal ?_)
   refine AK.then_ (hK9 _ ?_)
   refine AK.region ?_
   refine .v (.add rfl rfl (by omega)) ?_
   refine .mv rfl (.nil ?_)
   refine AK.then_ (hK6 _ _ (k + 1) (by omega) (by omega) (slr) (fun w hw => hw))
  ·refine AK.shape 4 rfl (fun smv => ?_)
   refine .exit (.then_exit (.then_exit (.block_exit ?_)))
   refine AK.then_ (hK4 _ ?_)
   refine .seq fun _ hK11 => ?_
   refine .sr fun _ hK12 => ?_
   refine .mv rfl ?_
   refine .v (.lenR sl74 rfl (by first | exact rdp | exact .arg (hNi _ (by omega)))) ?_
   refine .mv rfl (.nt hK12 (.block ?_))
   refine AK.loopK (X := Nat) [(1, _), (2, _), (4, _), (6, _), (34, _), (35, _)] (fun k => [(36, .int .i64 (k : Int))]) (fun k => [box bx1 36 4 [.int .i64 d.L, .int .i64 d.s, vF, vN], box bx2 36 4 [.int .i64 0, .int .i64 0, .slice none 0 0, .slice none 0 0], row vs 3 1 (TSt d).length ((TSt d).map (Value.int .i64)), row vw 9 1 (TWo d).length ((TWo d).map sv), row mv 3 1 d.fin.length ((numK d.fin.length (TSt d) k).map (Value.int .i64))]) (fun k => k ≤ (TSt d).length) (fun k => (TSt d).length - k) (0) slr ?_ ?_ ?_ ?_
   ·exact Nat.zero_le _
   ·exact slr
   ·exact fun w hw => by have e : (List.replicate k (-1) ++ List.replicate (d.fin.length - k) (0 : Int)) = numK d.fin.length (TSt d) 0 := (by rw [show k = d.fin.length by omega, Nat.sub_self]; simp [numK]); rw [e] at hw; exact hw
   ·intro k hg1 _ hK13
    refine .sr fun _ hK14 => ?_
    refine .v (.lss rfl rfl) ?_
    refine .nt hK14 ?_
    refine .seq fun _ hK15 => ?_
    refine AK.condD rfl (fun hc1 => ?_) (fun hc1 => ?_)
    ·have htk := tk2 _ (getD_mem (d := 0) (xs := TSt d) (k := k) (by omega))
     refine .skip ?_
     refine AK.then_ (hK15 _ ?_)
     refine .seq fun _ hK16 => ?_
     refine .block ?_
     refine .sr fun _ hK17 => ?_
     refine .mv rfl ?_
     first | refine .v (.iN sl74 rfl rfl (hr := (by first | exact rdp | exact .arg (hNi _ (by omega))))) ?_ | refine .v (.iK sl74 rfl rfl (hr := (by first | exact rdp | exact .arg (hNi _ (by omega))))) ?_
     refine .v (.loadI on3 rfl (by first | exact rdp | exact .arg (hNi _ (by omega))) (by omega)) ?_
     refine .as rfl (.as rfl (.nt hK17 ?_))
     refine AK.region ?_
     refine .mv rfl (.mv rfl (.mv rfl ?_))
     first | refine .v (.iN sl74 rfl rfl (hr := (by first | exact rdp | exact .arg (hNi _ (by omega))))) ?_ | refine .v (.iK sl74 rfl rfl (hr := (by first | exact rdp | exact .arg (hNi _ (by omega))))) ?_
     refine AK.store1e 4 rfl sz3 rfl rfl rfl rfl (by have := numK_len d.fin.length (TSt d) k; omega) (cs' := ((numK d.fin.length (TSt d) (k + 1)).map (Value.int .i64))) (by rw [numK_succ, List.map_set]) trivial ?_
     refine .nil (.block_normal ?_)
     refine AK.then_ (hK16 _ ?_)
     refine AK.region ?_
     refine .v (.add rfl rfl (by omega)) ?_
     refine .mv rfl (.nil ?_)
     refine AK.then_ (hK13 _ _ (k + 1) (by omega) (by omega) (slr) (fun w hw => hw))
    ·refine .exit (.then_exit (.then_exit (.block_exit ?_)))
     refine AK.then_ (hK11 _ ?_)
     refine .sr fun _ hK18 => ?_
     refine .v (.fieldAddr fd36_0 rfl) ?_
     refine .v (.loadBox on3 rfl bsp rfl) ?_
     refine .v (.build (parts := [(0, .tmp 47)]) (cs := #[.int .i64 d.L, .int .i64 0, .slice none 0 0, .slice none 0 0]) rfl (by kernel_rfl)) ?_
     refine AK.alloc el36 rfl rfl trivial rfl (fun bx10 => ?_)
     refine AK.storeBox 5 (us := [.int .i64 d.L, .int .i64 0, .slice none 0 0, .slice none 0 0]) (cs' := [.int .i64 d.L, .int .i64 0, .slice none 0 0, .slice none 0 0]) rfl sz36 rfl rfl rfl rfl oneP (Nat.le_of_ble_eq_true rfl) rfl trivial ?_
     refine .nt hK18 ?_
     refine .seq fun _ hK19 => ?_
     refine .sr fun _ hK20 => ?_
     refine .mv rfl ?_
     refine .v (.lenR sl74 rfl (by first | exact rdp | exact .arg (hNi _ (by omega)))) ?_
     refine .mv rfl (.nt hK20 (.block ?_))
     refine AK.loopK (X := Nat × Value × Value × List Value) [(1, _), (2, _), (6, _), (10, _), (49, _), (50, _)] (fun x => [(51, .int .i64 (x.1 : Int))]) (fun x => [box bx1 36 4 [.int .i64 d.L, .int .i64 d.s, vF, vN], box bx2 36 4 [.int .i64 0, .int .i64 0, .slice none 0 0, .slice none 0 0], row vs 3 1 (TSt d).length ((TSt d).map (Value.int .i64)), row vw 9 1 (TWo d).length ((TWo d).map sv), row mv 3 1 d.fin.length ((numT d).map (Value.int .i64)), box bx10 36 4 [.int .i64 d.L, .int .i64 0, x.2.1, x.2.2.1], row x.2.1 4 1 x.1 ((((TSt d).take x.1).map (finQ d)).map Value.bool), row x.2.2.1 74 1 x.1 x.2.2.2, bigA (matG (Value.int .i64) 3 x.2.2.2 (((TSt d).take x.1).map fun (q : Int) => (d.nx.getD q.toNat []).map fun (s : Int) => (numT d).getD s.toNat 0))]) (fun x => x.1 ≤ (TSt d).length ∧ x.2.2.2.length = x.1 ∧ IsSl x.2.1 ∧ IsSl x.2.2.1) (fun x => (TSt d).length - x.1) ((0, .slice none 0 0, .slice none 0 0, [])) slr ?_ ?_ ?_ ?_
     ·exact ⟨Nat.zero_le _, rfl, nilSl, nilSl⟩
     ·exact slr
     ·exact fun w hw => by rw [show numK d.fin.length (TSt d) k = numT d by unfold numT; rw [show k = (TSt d).length by omega]] at hw; have h1 := ((hw.ghostG (f := Value.int .i64) 3).ghost 4 1).ghost 74 1; exact h1.pick [0, 1, 2, 3, 4, 5, 7, 8, 6] (by decide) rfl rfl
     ·intro x hg2 _ hK21
      have hsF := hg2.2.2.1
      have hsN := hg2.2.2.2
      refine .sr fun _ hK22 => ?_
      refine .v (.lss rfl rfl) ?_
      refine .nt hK22 ?_
      refine .seq fun _ hK23 => ?_
      refine AK.condD rfl (fun hc2 => ?_) (fun hc2 => ?_)
      ·have htq := tk2 _ (getD_mem (d := 0) (xs := TSt d) (k := x.1) (by omega))
       have hrw := hv.row ((TSt d).getD x.1 0).toNat (by omega)
       have hto := fun j => hv.to ((TSt d).getD x.1 0).toNat j (by omega)
       refine .skip ?_
       refine AK.then_ (hK23 _ ?_)
       refine .seq fun _ hK24 => ?_
       refine .block ?_
       refine .sr fun _ hK25 => ?_
       first | refine .v (.iN sl74 rfl rfl (hr := (by first | exact rdp | exact .arg (hNi _ (by omega))))) ?_ | refine .v (.iK sl74 rfl rfl (hr := (by first | exact rdp | exact .arg (hNi _ (by omega))))) ?_
       refine .v (.loadI on3 rfl (by first | exact rdp | exact .arg (hNi _ (by omega))) (by omega)) ?_
       refine .as rfl (.nt hK25 ?_)
       refine .sr fun _ hK26 => ?_
       refine .as rfl (.nt hK26 ?_)
       refine .seq fun _ hK27 => ?_
       refine .sr fun _ hK28 => ?_
       refine .v (.fieldAddr fd36_3 rfl) ?_
       refine .v (.loadBox on34 rfl bsp rfl) ?_
       refine .mv rfl ?_
       first | refine .v (.iN sl34 rfl rfl (hr := (by first | exact rdp | exact .arg (hNi _ (by omega))))) ?_ | refine .v (.iK sl34 rfl rfl (hr := (by first | exact rdp | exact .arg (hNi _ (by omega))))) ?_
       refine .v (.loadV on74 rfl (by first | exact rdp | exact .arg (hNi _ (by omega))) (by omega)) ?_
       refine .v (.lenR sl74 rfl (by first | exact rdp | exact .arg (hNi _ (by omega)))) ?_
       refine .mv rfl (.nt hK28 (.block ?_))
       refine AK.loopK (X := Nat × Value) [(1, _), (2, _), (6, _), (10, _), (12, _), (49, _), (50, _), (51, _), (59, _), (60, _)] (fun y => [(13, y.2), (61, .int .i64 (y.1 : Int))]) (fun y => [box bx1 36 4 [.int .i64 d.L, .int .i64 d.s, vF, vN], box bx2 36 4 [.int .i64 0, .int .i64 0, .slice none 0 0, .slice none 0 0], row vs 3 1 (TSt d).length ((TSt d).map (Value.int .i64)), row vw 9 1 (TWo d).length ((TWo d).map sv), row mv 3 1 d.fin.length ((numT d).map (Value.int .i64)), box bx10 36 4 [.int .i64 d.L, .int .i64 0, x.2.1, x.2.2.1], row x.2.1 4 1 x.1 ((((TSt d).take x.1).map (finQ d)).map Value.bool), row x.2.2.1 74 1 x.1 x.2.2.2, bigA (matG (Value.int .i64) 3 x.2.2.2 (((TSt d).take x.1).map fun (q : Int) => (d.nx.getD q.toNat []).map fun (s : Int) => (numT d).getD s.toNat 0)), row y.2 3 1 y.1 ((((d.nx.getD ((TSt d).getD x.1 0).toNat []).take y.1).map fun (s : Int) => (numT d).getD s.toNat 0).map (Value.int .i64))]) (fun y => y.1 ≤ (d.nx.getD ((TSt d).getD x.1 0).toNat []).length ∧ IsSl y.2) (fun y => (d.nx.getD ((TSt d).getD x.1 0).toNat []).length - y.1) ((0, .slice none 0 0)) slr ?_ ?_ ?_ ?_
       ·exact ⟨Nat.zero_le _, nilSl⟩
       ·exact slr
       ·exact fun w hw => by exact (hw.ghost 3 1)
       ·intro y hg3 _ hK29
        refine .sr fun _ hK30 => ?_
        refine .v (.lss rfl rfl) ?_
        refine .nt hK30 ?_
        refine .seq fun _ hK31 => ?_
        refine AK.condD rfl (fun hc3 => ?_) (fun hc3 => ?_)
        ·have hto1 := hto y.1 (by omega)
         refine .skip ?_
         refine AK.then_ (hK31 _ ?_)
         refine .seq fun _ hK32 => ?_
         refine .block ?_
         refine .sr fun _ hK33 => ?_
         first | refine .v (.iN sl74 rfl rfl (hr := (by first | exact rdp | exact .arg (hNi _ (by omega))))) ?_ | refine .v (.iK sl74 rfl rfl (hr := (by first | exact rdp | exact .arg (hNi _ (by omega))))) ?_
         refine .v (.loadI on3 rfl (by first | exact rdp | exact .arg (hNi _ (by omega))) (by omega)) ?_
         refine .as rfl (.nt hK33 ?_)
         refine AK.region ?_
         refine .mv rfl (.mv rfl (.mv rfl ?_))
         first | refine .v (.iN sl74 rfl rfl (hr := (by first | exact rdp | exact .arg (hNi _ (by omega))))) ?_ | refine .v (.iK sl74 rfl rfl (hr := (by first | exact rdp | exact .arg (hNi _ (by omega))))) ?_
         refine .v (.loadI on3 rfl (by first | exact rdp | exact .arg (hNi _ (by omega))) (by omega)) ?_
         refine AK.append1 9 rfl sl74 el3 rfl (by decide) rfl (by intro k hk; cases hk; rfl) rfl (by intro u hu; simp [Value.cells] at hu; subst hu; rfl) (by omega) (by omega) (by decide) rfl rfl (fun va _ ha => ?_)
         refine .as rfl (.nil (.block_normal ?_))
         refine AK.then_ (hK32 _ ?_)
         refine AK.region ?_
         refine .v (.add rfl rfl (by omega)) ?_
         refine .mv rfl (.nil ?_)
         refine AK.then_ (hK29 _ _ ((y.1 + 1, va)) ⟨by dsimp only; omega, ha⟩ (by dsimp only; omega) (slr) (fun w hw => by dsimp only; rw [take_snocD 0 _ _ (by omega), List.map_append, List.map_append]; exact hw))
        ·refine .exit (.then_exit (.then_exit (.block_exit ?_)))
         refine AK.then_ (hK27 _ ?_)
         refine AK.joinK (X := Value × Value) [(1, _), (2, _), (6, _), (10, _), (49, _), (50, _), (51, _)] (fun z => []) (fun z => [box bx1 36 4 [.int .i64 d.L, .int .i64 d.s, vF, vN], box bx2 36 4 [.int .i64 0, .int .i64 0, .slice none 0 0, .slice none 0 0], row vs 3 1 (TSt d).length ((TSt d).map (Value.int .i64)), row vw 9 1 (TWo d).length ((TWo d).map sv), row mv 3 1 d.fin.length ((numT d).map (Value.int .i64)), box bx10 36 4 [.int .i64 d.L, .int .i64 0, z.1, z.2], row z.1 4 1 (x.1 + 1) ((((TSt d).take x.1).map (finQ d)).map Value.bool ++ [Value.bool (finQ d ((TSt d).getD x.1 0))].flatMap (·.cells.toList)), row z.2 74 1 (x.1 + 1) (x.2.2.2 ++ [y.2].flatMap (·.cells.toList)), bigA (matG (Value.int .i64) 3 x.2.2.2 (((TSt d).take x.1).map fun (q : Int) => (d.nx.getD q.toNat []).map fun (s : Int) => (numT d).getD s.toNat 0)), row y.2 3 1 y.1 ((((d.nx.getD ((TSt d).getD x.1 0).toNat []).take y.1).map fun (s : Int) => (numT d).getD s.toNat 0).map (Value.int .i64))]) (fun z => IsSl z.1 ∧ IsSl z.2) slr (fun _ hJ => ?_) (fun z hg => ?_)
         ·try (conv => enter [2, 2]; dsimp only [List.set_cons_zero, List.set_cons_succ, List.cons_append, List.nil_append])
          refine AK.held 15 mixed ?_
          refine HeldK.first 0 (fuel := 17) (listed' := (lb 18 1)) _ rfl krf krf rfl (Yl.fieldAddr fd36_3 rfl) trivial rfl ?_
          refine HeldK.first 1 (fuel := 16) (listed' := (lb 18 3)) _ rfl krf krf rfl (Yl.loadBox on34 rfl bsp rfl) trivial rfl ?_
          refine HeldK.first 2 (fuel := 15) (listed' := (lb 18 7)) _ rfl krf krf rfl (Yl.move rfl) trivial rfl ?_
          refine HeldK.first 5 (fuel := 14) (listed' := (lb 18 39)) _ rfl krf krf rfl (Yl.fieldAddr fd36_2 rfl) trivial rfl ?_
          refine HeldK.first 6 (fuel := 13) (listed' := (lb 18 103)) _ rfl krf krf rfl (Yl.loadBox on33 rfl bsp rfl) trivial rfl ?_
          refine HeldK.first 7 (fuel := 12) (listed' := (lb 18 231)) _ rfl krf krf rfl (Yl.fieldAddr fd36_2 rfl) trivial rfl ?_
          refine HeldK.first 8 (fuel := 11) (listed' := (lb 18 487)) _ rfl krf krf rfl (Yl.loadBox on33 rfl bsp rfl) trivial rfl ?_
          refine HeldK.first 9 (fuel := 10) (listed' := (lb 18 999)) _ rfl krf krf rfl (Yl.move rfl) trivial rfl ?_
          first | refine HeldK.first 10 (fuel := 9) (listed' := (lb 18 2023)) _ rfl krf krf rfl (.iN sl33 rfl rfl (hr := (by first | exact rdp | exact .arg (hNi _ (by omega))))) trivial rfl ?_ | refine HeldK.first 10 (fuel := 9) (listed' := (lb 18 2023)) _ rfl krf krf rfl (.iK sl33 rfl rfl (hr := (by first | exact rdp | exact .arg (hNi _ (by omega))))) trivial rfl ?_
          refine HeldK.first 11 (fuel := 8) (listed' := (lb 18 4071)) _ rfl krf krf rfl (Yl.loadB on4 rfl (by first | exact rdp | exact .arg (hNi _ (by omega))) (by omega)) trivial rfl ?_
          refine HeldK.two 3 12 (fuel := 7) (listed1 := (lb 18 4079)) (listed2 := (lb 18 8167)) krf rfl rfl krf krf ?_ ?_
          ·refine AK.lit (xs := [.tmp 75]) sl34 el74 rfl rfl rfl (by intro a ha; simp at ha; subst ha; rw [hg3.2.cells]; rfl) (by decide) (by decide) trivial rfl (fun t1 => ?_)
           refine .nil ?_
           try (conv => enter [2, 2]; dsimp only [List.set_cons_zero, List.set_cons_succ, List.cons_append, List.nil_append])
           refine HeldK.back Go.Sx.hle ?_
           refine HeldK.two 4 12 (fuel := 6) (listed1 := (lb 18 4095)) (listed2 := (lb 18 8175)) krf rfl rfl krf krf ?_ ?_
           ·refine AK.appendH 7 rfl sl34 el74 rfl (by decide) rfl rfl rfl (by first | exact rdp | exact .arg (hNi _ (by omega))) (by rw [show [y.2].flatMap (·.cells.toList) = [y.2] by simp [hg3.2.cells]]; exact one'_cons hg3.2.one one'_nil) (by omega) (by omega) trivial rfl (fun vn2 hn2 => ?_)
            refine .nil ?_
            try (conv => enter [2, 2]; dsimp only [List.set_cons_zero, List.set_cons_succ, List.cons_append, List.nil_append])
            refine HeldK.back Go.Sx.hle ?_
            refine HeldK.first 14 (fuel := 5) (listed' := (lb 18 20479)) _ rfl krf krf rfl (Yl.fieldAddr fd36_3 rfl) trivial rfl ?_
            refine HeldK.one 12 (fuel := 4) (listed' := (lb 18 24575)) krf rfl krf ?_
            refine AK.lit (xs := [.tmp 84]) sl33 el4 rfl rfl rfl (by intro a ha; simp at ha; subst ha; rfl) (by decide) (by decide) trivial rfl (fun t2 => ?_)
            refine .nil ?_
            try (conv => enter [2, 2]; dsimp only [List.set_cons_zero, List.set_cons_succ, List.cons_append, List.nil_append])
            refine HeldK.back Go.Sx.hle ?_
            refine HeldK.one 13 (fuel := 3) (listed' := (lb 18 32767)) krf rfl krf ?_
            refine AK.appendH 6 rfl sl33 el4 rfl (by decide) rfl rfl rfl (by first | exact rdp | exact .arg (hNi _ (by omega))) oneP (by omega) (by omega) trivial rfl (fun vf2 hf2 => ?_)
            refine .nil ?_
            try (conv => enter [2, 2]; dsimp only [List.set_cons_zero, List.set_cons_succ, List.cons_append, List.nil_append])
            refine HeldK.back Go.Sx.hle ?_
            refine HeldK.one 15 (fuel := 2) (listed' := (lb 18 65535)) krf rfl krf ?_
            refine AK.storeBox 5 (us := [vn2]) (cs' := [.int .i64 d.L, .int .i64 0, x.2.1, vn2]) rfl sz34 rfl rfl (by rw [IsSl.cells (by assumption)]) rfl oneP (Nat.le_of_ble_eq_true rfl) rfl trivial ?_
            refine .nil ?_
            try (conv => enter [2, 2]; dsimp only [List.set_cons_zero, List.set_cons_succ, List.cons_append, List.nil_append])
            refine HeldK.backN 16 krf rfl krf ?_
            refine .v (.fieldAddr fd36_2 rfl) ?_
            refine AK.storeBox 5 (us := [vf2]) (cs' := [.int .i64 d.L, .int .i64 0, vf2, vn2]) rfl sz33 rfl rfl (by rw [IsSl.cells (by assumption)]) rfl oneP (Nat.le_of_ble_eq_true rfl) rfl trivial ?_
            refine .nil ?_
            refine AK.fromQn ?_
            exact hJ _ _ ((vf2, vn2)) ⟨hf2, hn2⟩ (slr) (fun w hw => by first | exact hw.pickLe [0, 1, 2, 3, 4, 5, 6, 7, 8, 9] (by decide) pkl)
           ·refine AK.lit (xs := [.tmp 84]) sl33 el4 rfl rfl rfl (by intro a ha; simp at ha; subst ha; rfl) (by decide) (by decide) trivial rfl (fun t2 => ?_)
            refine .nil ?_
            try (conv => enter [2, 2]; dsimp only [List.set_cons_zero, List.set_cons_succ, List.cons_append, List.nil_append])
            refine HeldK.back Go.Sx.hle ?_
            refine HeldK.one 4 (fuel := 5) (listed' := (lb 18 8191)) krf rfl krf ?_
            refine AK.appendH 7 rfl sl34 el74 rfl (by decide) rfl rfl rfl (by first | exact rdp | exact .arg (hNi _ (by omega))) (by rw [show [y.2].flatMap (·.cells.toList) = [y.2] by simp [hg3.2.cells]]; exact one'_cons hg3.2.one one'_nil) (by omega) (by omega) trivial rfl (fun vn2 hn2 => ?_)
            refine .nil ?_
            try (conv => enter [2, 2]; dsimp only [List.set_cons_zero, List.set_cons_succ, List.cons_append, List.nil_append])
            refine HeldK.back Go.Sx.hle ?_
            refine HeldK.first 14 (fuel := 4) (listed' := (lb 18 24575)) _ rfl krf krf rfl (Yl.fieldAddr fd36_3 rfl) trivial rfl ?_
            refine HeldK.one 13 (fuel := 3) (listed' := (lb 18 32767)) krf rfl krf ?_
            refine AK.appendH 6 rfl sl33 el4 rfl (by decide) rfl rfl rfl (by first | exact rdp | exact .arg (hNi _ (by omega))) oneP (by omega) (by omega) trivial rfl (fun vf2 hf2 => ?_)
            refine .nil ?_
            try (conv => enter [2, 2]; dsimp only [List.set_cons_zero, List.set_cons_succ, List.cons_append, List.nil_append])
            refine HeldK.back Go.Sx.hle ?_
            refine HeldK.one 15 (fuel := 2) (listed' := (lb 18 65535)) krf rfl krf ?_
            refine AK.storeBox 5 (us := [vn2]) (cs' := [.int .i64 d.L, .int .i64 0, x.2.1, vn2]) rfl sz34 rfl rfl (by rw [IsSl.cells (by assumption)]) rfl oneP (Nat.le_of_ble_eq_true rfl) rfl trivial ?_
            refine .nil ?_
            try (conv => enter [2, 2]; dsimp only [List.set_cons_zero, List.set_cons_succ, List.cons_append, List.nil_append])
            refine HeldK.backN 16 krf rfl krf ?_
            refine .v (.fieldAddr fd36_2 rfl) ?_
            refine AK.storeBox 5 (us := [vf2]) (cs' := [.int .i64 d.L, .int .i64 0, vf2, vn2]) rfl sz33 rfl rfl (by rw [IsSl.cells (by assumption)]) rfl oneP (Nat.le_of_ble_eq_true rfl) rfl trivial ?_
            refine .nil ?_
            refine AK.fromQn ?_
            exact hJ _ _ ((vf2, vn2)) ⟨hf2, hn2⟩ (slr) (fun w hw => by first | exact hw.pickLe [0, 1, 2, 3, 4, 5, 6, 7, 8, 9] (by decide) pkl)
          ·refine AK.lit (xs := [.tmp 84]) sl33 el4 rfl rfl rfl (by intro a ha; simp at ha; subst ha; rfl) (by decide) (by decide) trivial rfl (fun t2 => ?_)
           refine .nil ?_
           try (conv => enter [2, 2]; dsimp only [List.set_cons_zero, List.set_cons_succ, List.cons_append, List.nil_append])
           refine HeldK.back Go.Sx.hle ?_
           refine HeldK.one 3 (fuel := 6) (listed' := (lb 18 8175)) krf rfl krf ?_
           refine AK.lit (xs := [.tmp 75]) sl34 el74 rfl rfl rfl (by intro a ha; simp at ha; subst ha; rw [hg3.2.cells]; rfl) (by decide) (by decide) trivial rfl (fun t1 => ?_)
           refine .nil ?_
           try (conv => enter [2, 2]; dsimp only [List.set_cons_zero, List.set_cons_succ, List.cons_append, List.nil_append])
           refine HeldK.back Go.Sx.hle ?_
           refine HeldK.one 4 (fuel := 5) (listed' := (lb 18 8191)) krf rfl krf ?_
           refine AK.appendH 7 rfl sl34 el74 rfl (by decide) rfl rfl rfl (by first | exact rdp | exact .arg (hNi _ (by omega))) (by rw [show [y.2].flatMap (·.cells.toList) = [y.2] by simp [hg3.2.cells]]; exact one'_cons hg3.2.one one'_nil) (by omega) (by omega) trivial rfl (fun vn2 hn2 => ?_)
           refine .nil ?_
           try (conv => enter [2, 2]; dsimp only [List.set_cons_zero, List.set_cons_succ, List.cons_append, List.nil_append])
           refine HeldK.back Go.Sx.hle ?_
           refine HeldK.first 14 (fuel := 4) (listed' := (lb 18 24575)) _ rfl krf krf rfl (Yl.fieldAddr fd36_3 rfl) trivial rfl ?_
           refine HeldK.one 13 (fuel := 3) (listed' := (lb 18 32767)) krf rfl krf ?_
           refine AK.appendH 6 rfl sl33 el4 rfl (by decide) rfl rfl rfl (by first | exact rdp | exact .arg (hNi _ (by omega))) oneP (by omega) (by omega) trivial rfl (fun vf2 hf2 => ?_)
           refine .nil ?_
           try (conv => enter [2, 2]; dsimp only [List.set_cons_zero, List.set_cons_succ, List.cons_append, List.nil_append])
           refine HeldK.back Go.Sx.hle ?_
           refine HeldK.one 15 (fuel := 2) (listed' := (lb 18 65535)) krf rfl krf ?_
           refine AK.storeBox 5 (us := [vn2]) (cs' := [.int .i64 d.L, .int .i64 0, x.2.1, vn2]) rfl sz34 rfl rfl (by rw [IsSl.cells (by assumption)]) rfl oneP (Nat.le_of_ble_eq_true rfl) rfl trivial ?_
           refine .nil ?_
           try (conv => enter [2, 2]; dsimp only [List.set_cons_zero, List.set_cons_succ, List.cons_append, List.nil_append])
           refine HeldK.backN 16 krf rfl krf ?_
           refine .v (.fieldAddr fd36_2 rfl) ?_
           refine AK.storeBox 5 (us := [vf2]) (cs' := [.int .i64 d.L, .int .i64 0, vf2, vn2]) rfl sz33 rfl rfl (by rw [IsSl.cells (by assumption)]) rfl oneP (Nat.le_of_ble_eq_true rfl) rfl trivial ?_
           refine .nil ?_
           refine AK.fromQn ?_
           exact hJ _ _ ((vf2, vn2)) ⟨hf2, hn2⟩ (slr) (fun w hw => by first | exact hw.pickLe [0, 1, 2, 3, 4, 5, 6, 7, 8, 9] (by decide) pkl)
         ·skip
          refine .block_normal ?_
          refine AK.then_ (hK24 _ ?_)
          refine AK.region ?_
          refine .v (.add rfl rfl (by omega)) ?_
          refine .mv rfl (.nil ?_)
          refine AK.then_ (hK21 _ _ ((x.1 + 1, z.1, z.2, x.2.2.2 ++ [y.2])) ⟨by dsimp only; omega, by simp [hg2.2.1], hg.1, hg.2⟩ (by dsimp only; omega) (slr) (fun w hw => by
  dsimp only
  have e1 : (((TSt d).take (x.1 + 1)).map (finQ d)).map Value.bool = (((TSt d).take x.1).map (finQ d)).map Value.bool ++ [Value.bool (finQ d ((TSt d).getD x.1 0))].flatMap (·.cells.toList) := (by rw [take_snocD 0 _ _ (by omega)]; simp [Value.cells])
  have e2 : (((TSt d).take (x.1 + 1)).map fun (q : Int) => (d.nx.getD q.toNat []).map fun (s : Int) => (numT d).getD s.toNat 0) = (((TSt d).take x.1).map fun (q : Int) => (d.nx.getD q.toNat []).map fun (s : Int) => (numT d).getD s.toNat 0) ++ [((d.nx.getD ((TSt d).getD x.1 0).toNat []).map fun (s : Int) => (numT d).getD s.toNat 0)] := (by rw [take_snocD 0 (TSt d) x.1 (by omega), List.map_append]; rfl)
  have e3 : [y.2].flatMap (·.cells.toList) = [y.2] := (by simp [hg3.2.cells])
  have e4 : y.1 = (d.nx.getD ((TSt d).getD x.1 0).toNat []).length := (by omega)
  rw [e3, e4, List.take_length] at hw
  rw [e1, e2, matG_snoc (by rw [List.length_map, List.length_take, hg2.2.1]; omega), List.length_map]
  exact HW.absorb (own := [_, _, _, _, _, _, _, _, _]) 8 rfl hw))
      ·refine .exit (.then_exit (.then_exit (.block_exit ?_)))
       refine AK.then_ (hK19 _ ?_)
       refine .sr fun _ hK34 => ?_
       refine .v (.loadBoxG ag36 rfl bsp rfl rfl) ?_
       refine .mv rfl ?_
       refine AK.storeBox 1 (us := [.int .i64 d.L, .int .i64 0, x.2.1, x.2.2.1]) (cs' := [.int .i64 d.L, .int .i64 0, x.2.1, x.2.2.1]) rfl sz36 rfl rfl rfl rfl oneP (Nat.le_of_ble_eq_true rfl) rfl trivial ?_
       refine .as rfl (.nt hK34 (.ret ?_))
       refine AK.own' ([box bx1 36 4 [.int .i64 d.L, .int .i64 d.s, vF, vN], box bx2 36 4 [.int .i64 d.L, .int .i64 0, x.2.1, x.2.2.1], row vs 3 1 (TSt d).length ((TSt d).map (Value.int .i64)), row vw 9 1 (TWo d).length ((TWo d).map sv), row mv 3 1 d.fin.length ((numT d).map (Value.int .i64)), box bx10 36 4 [.int .i64 d.L, .int .i64 0, x.2.1, x.2.2.1], row x.2.1 4 1 x.1 ((((TSt d).take x.1).map (finQ d)).map Value.bool), row x.2.2.1 74 1 x.1 x.2.2.2, bigA (matG (Value.int .i64) 3 x.2.2.2 (((TSt d).take x.1).map fun (q : Int) => (d.nx.getD q.toNat []).map fun (s : Int) => (numT d).getD s.toNat 0))]) (fun w hw => hw) ?_
       refine AK.retG [.cell 2 36, .tmp 3] rfl (.cons (.cell ag36 rfl bsp rfl rfl) (.cons (.tmp rfl) (.nil))) (fun w hw => ⟨_, _, ?_, rfl, Ret.of (hw.pick [6, 7, 8, 4] (by decide) rfl rfl)⟩)
       rw [← trimR_eq hv]
       have e : x.1 = (TSt d).length := (by omega)
       refine ⟨x.2.1, x.2.2.1, mv, x.2.2.2, rfl, ?_, hg2.2.2.1, hg2.2.2.2, smv, ?_⟩
       ·rw [hg2.2.1, e]; simp [trimR]
       ·unfold dfaO trimR; rw [e, List.take_length, List.length_map, List.length_map, hnl]; rfl

end Go.Proofs.Ytaeojcaidcjnaaa
