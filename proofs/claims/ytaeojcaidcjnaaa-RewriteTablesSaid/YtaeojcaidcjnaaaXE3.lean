import Derived.Test.YtaeojcaidcjnaaaXE1
import Derived.Test.YtaeojcaidcjnaaaXD10
set_option linter.unusedVariables false
set_option linter.unusedSimpArgs false
namespace Go.Proofs.Ytaeojcaidcjnaaa
open Go.Sx Go.RowKit
theorem lev0_get {d : Dfa} {k : Nat} (h : k < d.fin.length) : (lev d 0).getD k 0 = if d.fin.getD k false then 1 else 0 := by
  simp [lev, List.getD_eq_getElem?_getD, h]
theorem lev0_fill1 {d : Dfa} {k : Nat} (h : k < d.fin.length) (he : d.fin.getD k false = true) : (((lev d 0).take k ++ List.replicate (d.fin.length - k) 0).map (Value.int .i64)).set k (.int .i64 1) = ((lev d 0).take (k + 1) ++ List.replicate (d.fin.length - (k + 1)) 0).map (Value.int .i64) := by
  have hl := lev_len d 0
  rw [take_snocD 0 (lev d 0) k (by omega), lev0_get h, if_pos he]
  exact fill_set (Value.int .i64) _ 0 _ d.fin.length k (by rw [List.length_take]; omega) h
theorem lev0_fill0 {d : Dfa} {k : Nat} (h : k < d.fin.length) (he : ¬ d.fin.getD k false = true) : (lev d 0).take k ++ List.replicate (d.fin.length - k) 0 = (lev d 0).take (k + 1) ++ List.replicate (d.fin.length - (k + 1)) 0 := by
  have hl := lev_len d 0
  rw [take_snocD 0 (lev d 0) k (by omega), lev0_get h, if_neg he, show d.fin.length - k = (d.fin.length - (k + 1)) + 1 by omega, List.replicate_succ]
  simp
set_option maxHeartbeats 2000000 in
set_option maxRecDepth 100000 in
theorem s_refclasses (w : World) (v : Value) (d : Dfa) (h : RdD (fun _ => False) w v d) (hv : VD d) : CallS Try.prog 60 [v] w (fun r o => IsSl r ∧ o = [row r 3 1 (clsD d).length ((clsD d).map (Value.int .i64))]) := by
 have h0 := h
 obtain ⟨vF, vN, rfl, hF, hN⟩ := h
 have hF0 := hF
 have hN0 := hN
 obtain ⟨rs, hrl, hNr, hNi⟩ := hN
 have sF := hF.sl
 have sN := hNr.sl
 have hmf := hF.le
 have hmn := hNr.le
 unfold RdL at hF
 have hL := hv.L
 have hnx := hv.nx
 have hn5 := hv.n
 have hn0 : 0 < d.fin.length := by have := hv.s; omega
 have hl0 := lev_len d 0
 refine spec_of Try.func60 rfl (Nat.le_of_ble_eq_true rfl) ?_
 refine .sr fun _ hK1 => ?_
 refine AK.box_ (E := 36) (cs := [.int .i64 d.L, .int .i64 d.s, vF, vN]) rfl rfl rfl trivial rfl (fun bx1 => ?_)
 refine .as rfl (.nt hK1 ?_)
 refine .sr fun _ hK2 => ?_
 refine .v (.fieldAddr fd36_2 rfl) ?_
 refine .v (.loadBox on33 rfl bsp rfl) ?_
 refine .v (.lenR sl33 rfl (by first | exact rdp | exact .arg (hNi _ (by omega)))) ?_
 refine AK.make1 (n := d.fin.length) sl74 el3 rfl rfl rfl (by omega) (by omega) trivial rfl (fun mv0 => ?_)
 refine .as rfl (.nt hK2 ?_)
 refine .seq fun _ hK3 => ?_
 refine .sr fun _ hK4 => ?_
 refine .mv rfl ?_
 refine .v (.lenR sl74 rfl (by first | exact rdp | exact .arg (hNi _ (by omega)))) ?_
 refine .mv rfl (.nt hK4 (.block ?_))
 refine AK.loopK (X := Nat) [(1, _), (3, _), (14, _)] (fun k => [(15, .int .i64 (k : Int))]) (fun k => [box bx1 36 4 [.int .i64 d.L, .int .i64 d.s, vF, vN], row mv0 3 1 d.fin.length (((lev d 0).take k ++ List.replicate (d.fin.length - k) 0).map (Value.int .i64))]) (fun k => k ≤ d.fin.length) (fun k => d.fin.length - k) (0) slr ?_ ?_ ?_ ?_
 ·exact Nat.zero_le _
 ·exact slr
 ·exact fun w hw => by have e : (((lev d 0).take 0 ++ List.replicate (d.fin.length - 0) 0).map (Value.int .i64)) = List.replicate d.fin.length (Value.int .i64 0) := (by simp); rw [e]; exact hw
 ·intro k hg0 _ hK5
  refine .sr fun _ hK6 => ?_
  refine .v (.lss rfl rfl) ?_
  refine .nt hK6 ?_
  refine .seq fun _ hK7 => ?_
  refine AK.condD rfl (fun hc0 => ?_) (fun hc0 => ?_)
  ·refine .skip ?_
   refine AK.then_ (hK7 _ ?_)
   refine .seq fun _ hK8 => ?_
   refine .block ?_
   refine .sr fun _ hK9 => ?_
   refine .mv rfl (.as rfl (.nt hK9 ?_))
   refine .sr fun _ hK10 => ?_
   refine .v (.fieldAddr fd36_2 rfl) ?_
   refine .v (.loadBox on33 rfl bsp rfl) ?_
   refine .mv rfl ?_
   first | refine .v (.iN sl33 rfl rfl (hr := (by first | exact rdp | exact .arg (hNi _ (by omega))))) ?_ | refine .v (.iK sl33 rfl rfl (hr := (by first | exact rdp | exact .arg (hNi _ (by omega))))) ?_
   refine .v (.loadB on4 rfl (by first | exact rdp | exact .arg (hNi _ (by omega))) (by omega)) ?_
   refine .nt hK10 ?_
   refine AK.cond rfl (fun hc1 => ?_) (fun hc1 => ?_)
   ·try simp only [bs] at hc1
    refine AK.region ?_
    refine .mv rfl (.mv rfl ?_)
    first | refine .v (.iN sl74 rfl rfl (hr := (by first | exact rdp | exact .arg (hNi _ (by omega))))) ?_ | refine .v (.iK sl74 rfl rfl (hr := (by first | exact rdp | exact .arg (hNi _ (by omega))))) ?_
    refine AK.store1e 1 rfl sz3 rfl rfl rfl rfl (by omega) (cs' := (((lev d 0).take (k + 1) ++ List.replicate (d.fin.length - (k + 1)) 0).map (Value.int .i64))) (by exact lev0_fill1 (by omega) hc1) trivial ?_
    refine .nil (.block_normal ?_)
    refine AK.then_ (hK8 _ ?_)
    refine AK.region ?_
    refine .v (.add rfl rfl (by omega)) ?_
    refine .mv rfl (.nil ?_)
    first | refine AK.then_ (hK5 _ _ (k + 1) (by omega) (by omega) (slr) (fun w hw => hw)) | refine AK.then_ (hK5 _ _ (k + 1) (by omega) (by omega) (slr) (fun w hw => by rw [← lev0_fill0 (by omega) (by rw [hc1]; decide)]; exact hw))
   ·try simp only [bs] at hc1
    refine .skip (.block_normal ?_)
    refine AK.then_ (hK8 _ ?_)
    refine AK.region ?_
    refine .v (.add rfl rfl (by omega)) ?_
    refine .mv rfl (.nil ?_)
    first | refine AK.then_ (hK5 _ _ (k + 1) (by omega) (by omega) (slr) (fun w hw => hw)) | refine AK.then_ (hK5 _ _ (k + 1) (by omega) (by omega) (slr) (fun w hw => by rw [← lev0_fill0 (by omega) (by rw [hc1]; decide)]; exact hw))
  ·refine .exit (.then_exit (.then_exit (.block_exit ?_)))
   refine AK.then_ (hK3 _ ?_)
   refine .sr fun _ hK11 => ?_
   refine .mv rfl ?_
   refine AK.call co73 rfl (fun w hw => s_number w mv0 (lev d 0) (RdL.ownE 1 hw rfl hl0.symm (by rw [show k = d.fin.length by omega, Nat.sub_self, List.replicate_zero, List.append_nil, ← hl0, List.take_length])) (by omega)) trivial rfl ?_
   rintro r o ⟨sp0, rfl⟩
   refine .as rfl (.nt hK11 (.block ?_))
   refine AK.loopK (X := Value × List Int) [(1, _)] (fun x => [(3, x.1)]) (fun x => [box bx1 36 4 [.int .i64 d.L, .int .i64 d.s, vF, vN], row x.1 3 1 d.fin.length (x.2.map (Value.int .i64))]) (fun x => (∃ k, Ker d k x.2) ∧ canN x.2 = x.2 ∧ IsSl x.1) (fun x => d.fin.length - (ded x.2).length) ((r, canN (lev d 0))) slr ?_ ?_ ?_ ?_
   ·exact ⟨⟨0, (lev_ker hv 0).can⟩, canN_canN _, sp0⟩
   ·exact slr
   ·exact fun w hw => by rw [hl0] at hw; exact hw.pick [0, 2] (by decide) rfl rfl
   ·intro x hg1 _ hK12
    have hxl : x.2.length = d.fin.length := by obtain ⟨kk, hkk⟩ := hg1.1; exact hkk.1
    have hxc := hg1.2.1
    have sx1 := hg1.2.2
    have hdx := ded_le x.2
    have hbx : Bdn d.fin.length x.2 := by obtain ⟨kk, hkk⟩ := hg1.1; exact hkk.bdn hxc
    refine .block ?_
    refine .sr fun _ hK13 => ?_
    refine .mv rfl (.as rfl (.nt hK13 ?_))
    refine .seq fun _ hK14 => ?_
    refine .sr fun _ hK15 => ?_
    refine .as rfl (.nt hK15 (.block ?_))
    refine AK.loopK (X := Nat × Value × Value × List Int) [(1, _), (3, _)] (fun y => [(5, y.2.1), (6, .int .i64 (y.1 : Int))]) (fun y => [box bx1 36 4 [.int .i64 d.L, .int .i64 d.s, vF, vN], row x.1 3 1 d.fin.length (x.2.map (Value.int .i64)), row y.2.2.1 3 1 y.2.2.2.length (y.2.2.2.map (Value.int .i64))]) (fun y => (y.1 ≤ d.L.toNat ∧ IsSl y.2.2.1) ∧ ((y.1 = 0 ∧ y.2.1 = x.1) ∨ (0 < y.1 ∧ y.2.2.1 = y.2.1 ∧ y.2.2.2 = canN (sgx d x.2 y.1)))) (fun y => d.L.toNat - y.1) ((0, x.1, .slice none 0 0, [])) slr ?_ ?_ ?_ ?_
    ·exact ⟨⟨Nat.zero_le _, nilSl⟩, .inl ⟨rfl, rfl⟩⟩
    ·exact slr
    ·exact fun w hw => by exact hw.ghost 3 1
    ·intro y hg2 _ hK16
     have hg2s := hg2.1.2
     have hnxl : (canN (sgx d x.2 y.1)).length = d.fin.length := by rw [canN_len, sgx_len]
     have hsx := sgx_len d x.2 y.1
     refine .seq fun _ hK17 => ?_
     refine .sr fun _ hK18 => ?_
     refine .mv rfl ?_
     refine .v (.fieldAddr fd36_0 rfl) ?_
     refine .v (.loadBox on3 rfl bsp rfl) ?_
     refine .v (.lss rfl rfl) ?_
     refine .nt hK18 ?_
     refine AK.condD rfl (fun hc2 => ?_) (fun hc2 => ?_)
     ·refine .skip ?_
      refine AK.then_ (hK17 _ ?_)
      refine .seq fun _ hK19 => ?_
      refine .block ?_
      refine .sr fun _ hK20 => ?_
      refine .as rfl (.nt hK20 ?_)
      refine .seq fun _ hK21 => ?_
      refine .sr fun _ hK22 => ?_
      refine .mv rfl ?_
      refine .v (.lenR sl74 rfl (by first | exact rdp | exact .arg (hNi _ (by omega)))) ?_
      refine .mv rfl (.nt hK22 (.block ?_))
      refine AK.loopK (X := Nat × Value) [(1, _), (3, _), (5, _), (6, _), (37, _)] (fun z => [(7, z.2), (38, .int .i64 (z.1 : Int))]) (fun z => [box bx1 36 4 [.int .i64 d.L, .int .i64 d.s, vF, vN], row x.1 3 1 d.fin.length (x.2.map (Value.int .i64)), row y.2.2.1 3 1 y.2.2.2.length (y.2.2.2.map (Value.int .i64)), row z.2 3 1 z.1 (((tox d x.2 y.1).take z.1).map (Value.int .i64))]) (fun z => z.1 ≤ d.fin.length ∧ IsSl z.2) (fun z => d.fin.length - z.1) ((0, .slice none 0 0)) slr ?_ ?_ ?_ ?_
      ·exact ⟨Nat.zero_le _, nilSl⟩
      ·exact slr
      ·exact fun w hw => by exact hw.ghost 3 1
      ·intro z hg3 _ hK23
       refine .sr fun _ hK24 => ?_
       refine .v (.lss rfl rfl) ?_
       refine .nt hK24 ?_
       refine .seq fun _ hK25 => ?_
       refine AK.condD rfl (fun hc3 => ?_) (fun hc3 => ?_)
       ·have hqn : z.1 < d.fin.length := by omega
        have hrw := hv.row z.1 hqn
        have hto := hv.to z.1 y.1 hqn (by omega)
        refine .skip ?_
        refine AK.then_ (hK25 _ ?_)
        refine .seq fun _ hK26 => ?_
        refine .block ?_
        refine .sr fun _ hK27 => ?_
        refine .mv rfl (.as rfl (.nt hK27 ?_))
        refine AK.region ?_
        refine .mv rfl (.mv rfl ?_)
        refine .v (.fieldAddr fd36_3 rfl) ?_
        refine .v (.loadBox on34 rfl bsp rfl) ?_
        refine .mv rfl ?_
        first | refine .v (.iN sl34 rfl rfl (hr := (by first | exact rdp | exact .arg (hNi _ (by omega))))) ?_ | refine .v (.iK sl34 rfl rfl (hr := (by first | exact rdp | exact .arg (hNi _ (by omega))))) ?_
        refine .v (.loadV on74 rfl (by first | exact rdp | exact .arg (hNi _ (by omega))) (by omega)) ?_
        refine .mv rfl ?_
        first | refine .v (.iN sl74 rfl rfl (hr := (by first | exact rdp | exact .arg (hNi _ (by omega))))) ?_ | refine .v (.iK sl74 rfl rfl (hr := (by first | exact rdp | exact .arg (hNi _ (by omega))))) ?_
        refine .v (.loadI on3 rfl (by first | exact rdp | exact .arg (hNi _ (by omega))) (by omega)) ?_
        first | refine .v (.iN sl74 rfl rfl (hr := (by first | exact rdp | exact .arg (hNi _ (by omega))))) ?_ | refine .v (.iK sl74 rfl rfl (hr := (by first | exact rdp | exact .arg (hNi _ (by omega))))) ?_
        refine .v (.loadI on3 rfl (by first | exact rdp | exact .arg (hNi _ (by omega))) (by omega)) ?_
        refine AK.append1 3 rfl sl74 el3 rfl (by decide) rfl (by intro k hk; cases hk; rfl) rfl (by intro u hu; simp [Value.cells] at hu; subst hu; rfl) (by omega) (by omega) (by decide) rfl rfl (fun va _ ha => ?_)
        refine .as rfl (.nil (.block_normal ?_))
        refine AK.then_ (hK26 _ ?_)
        refine AK.region ?_
        refine .v (.add rfl rfl (by omega)) ?_
        refine .mv rfl (.nil ?_)
        refine AK.then_ (hK23 _ _ ((z.1 + 1, va)) ⟨by dsimp only; omega, ha⟩ (by dsimp only; omega) (slr) (fun w hw => by dsimp only; rw [tox_take hqn, List.map_append]; exact hw))
       ·refine .exit (.then_exit (.then_exit (.block_exit ?_)))
        refine AK.then_ (hK21 _ ?_)
        refine AK.region ?_
        refine .mv rfl (.mv rfl ?_)
        refine AK.call co74 rfl (fun w hw => s_both w y.2.1 z.2 (canN (sgx d x.2 y.1)) (tox d x.2 y.1) (by rcases hg2.2 with ⟨h1, h2⟩ | ⟨h1, h2, h3⟩; (rw [h2, h1, sgx_zero hxl hxc]; exact RdL.ownE 1 hw rfl hxl.symm rfl); (rw [← h2, ← h3]; exact RdL.own 2 hw rfl)) (RdL.ownE 3 hw rfl (by rw [tox_len]; omega) (by rw [show z.1 = d.fin.length by omega, ← tox_len d x.2 y.1, List.take_length])) (by rw [hnxl, ← hsx]; exact bd_canN _) (by rw [hnxl]; exact bd_tox hv hbx (by omega)) (by omega)) trivial rfl ?_
        rintro rb o ⟨sb, rfl⟩
        refine .as rfl (.nil (.block_normal ?_))
        refine AK.then_ (hK19 _ ?_)
        refine AK.region ?_
        refine .mv rfl ?_
        refine .v (.add rfl rfl (by omega)) ?_
        refine .as rfl (.nil ?_)
        refine AK.then_ (hK16 _ _ ((y.1 + 1, rb, rb, canN (sgx d x.2 (y.1 + 1)))) ⟨⟨by dsimp only; omega, sb⟩, .inr ⟨Nat.succ_pos _, rfl, rfl⟩⟩ (by dsimp only; omega) (slr) (fun w hw => by have h := hw.pick [0, 1, 4] (by decide) rfl rfl; rw [hnxl, sgx_next hv hbx (by omega)] at h; dsimp only; rw [canN_len, sgx_len]; exact h))
     ·have hyL : y.1 = d.L.toNat := by omega
      have hfin : y.2.2.1 = y.2.1 ∧ y.2.2.2 = canN (sigs d x.2) := by
       rcases hg2.2 with ⟨h1, h2⟩ | ⟨h1, h2, h3⟩
       ·omega
       ·exact ⟨h2, by rw [h3, hyL, sgx_full hv]⟩
      refine .exit (.then_exit (.then_exit (.block_exit ?_)))
      refine AK.then_ (hK14 _ ?_)
      refine .seq fun _ hK28 => ?_
      refine .sr fun _ hK29 => ?_
      refine .mv rfl (.mv rfl ?_)
      refine AK.call co50 rfl (fun w hw => s_same w y.2.1 x.1 (canN (sigs d x.2)) x.2 (by rw [← hfin.1]; exact RdL.ownE 2 hw rfl (by rw [hfin.2]) (by rw [hfin.2])) (RdL.ownE 1 hw rfl hxl.symm rfl) (by rw [canN_len, sigs_len]; omega)) trivial rfl ?_
      rintro r o ⟨rfl, rfl⟩
      refine .nt hK29 ?_
      refine AK.cond rfl (fun hc4 => ?_) (fun hc4 => ?_)
      ·try simp only [bs] at hc4
       refine .sr fun _ hK30 => ?_
       refine .mv rfl (.as rfl (.nt hK30 (.ret (.then_ret (.block_ret (.then_ret (.block_ret ?_)))))))
       refine AK.ret1 rfl rfl (fun w hw => ⟨_, _, ?_, rfl, Ret.of (hw.pick [1] (by decide) rfl rfl)⟩)
       obtain ⟨kk, hkk⟩ := hg1.1
       have e := cls_stop hv hkk ((cls_fix hv hkk hxc).1 hc4)
       rw [hc4] at e
       refine ⟨sx1, ?_⟩
       rw [cls_len, e]; rfl
      ·try simp only [bs] at hc4
       obtain ⟨kk, hkk⟩ := hg1.1
       have hmo := cls_more hv hkk (fun e => hc4 ((cls_fix hv hkk hxc).2 e))
       refine .skip ?_
       refine AK.then_ (hK28 _ ?_)
       refine AK.region ?_
       refine .mv rfl (.as rfl (.nil (.block_normal ?_)))
       refine AK.then_ (hK12 _ _ ((y.2.1, canN (sigs d x.2))) ⟨⟨kk + 1, hkk.next hv⟩, canN_canN _, (by rw [← hfin.1]; exact hg2s)⟩ (by dsimp only; omega) (slr) (fun w hw => by rw [← hfin.1]; have h := hw.pick [0, 2] (by decide) rfl rfl; rw [hfin.2, canN_len, sigs_len] at h; exact h))

end Go.Proofs.Ytaeojcaidcjnaaa
