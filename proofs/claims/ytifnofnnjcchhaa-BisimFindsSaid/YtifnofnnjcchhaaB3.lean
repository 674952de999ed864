import Derived.Test.YtifnofnnjcchhaaB1
import Derived.Test.YtifnofnnjcchhaaMP
set_option linter.unusedVariables false
set_option linter.unusedSimpArgs false
namespace Go.Proofs.Ytifnofnnjcchhaa
open Go.Sx Go.RowKit
set_option maxHeartbeats 4000000 in
set_option maxRecDepth 100000 in
theorem s_refdiff (w : World) (u v : Value) (a b : Dfa) (hu : RdD (fun _ => False) w u a) (hv : RdD (fun _ => False) w v b) (ha : VD a) (hb : VD b) (hL : a.L = b.L) (op : Int) (ho : 0 ≤ op ∧ op ≤ 15) : CallS Try.prog 16 [u, v, .int .i64 op] w (fun r o => r = .tuple #[sv (SrcV (stepP a b) a.L.toNat (a.s, b.s) (0, 0) (univ2 a.fin.length b.fin.length).length (finP a b op)).1, .bool (SrcV (stepP a b) a.L.toNat (a.s, b.s) (0, 0) (univ2 a.fin.length b.fin.length).length (finP a b op)).2] ∧ o = []) := by
 have hu0 := hu
 have hv0 := hv
 obtain ⟨aF, aN, rfl, haF, haN⟩ := hu
 obtain ⟨bF, bN, rfl, hbF, hbN⟩ := hv
 have haF0 := haF
 have hbF0 := hbF
 have haN0 := haN
 have hbN0 := hbN
 obtain ⟨ra, hra, haNr, haNi⟩ := haN
 obtain ⟨rb, hrb, hbNr, hbNi⟩ := hbN
 unfold RdL at haF hbF
 have m1 := haF.le
 have m2 := hbF.le
 have haL := ha.L
 have hax := ha.nx
 have hbx := hb.nx
 have ha5 := ha.n
 have hb5 := hb.n
 have has := ha.s
 have hbs := hb.s
 have hnn : a.fin.length * b.fin.length ≤ 262144 := Nat.mul_le_mul ha5 hb5
 have hst := start_univ2 ha hb
 have hcl := step_univ2 ha hb hL
 have hok := exI_ok (z := (0, 0)) hst hcl
 have hbd := exI_bd (z := (0, 0)) hst hcl
 rw [univ2_len] at hbd
 refine spec_of Try.func16 rfl (Nat.le_of_ble_eq_true rfl) ?_
 refine .sr fun _ hK1 => ?_
 refine AK.box_ (E := 25) (cs := [.int .i64 a.L, .int .i64 a.s, aF, aN]) rfl rfl rfl trivial rfl (fun bx3 => ?_)
 refine AK.box_ (E := 25) (cs := [.int .i64 b.L, .int .i64 b.s, bF, bN]) rfl rfl rfl trivial rfl (fun bx4 => ?_)
 refine .as rfl (.as rfl (.nt hK1 ?_))
 refine .sr fun _ hK2 => ?_
 refine .v (.fieldAddr fd25_1 rfl) ?_
 refine .v (.loadBox on3 rfl bsp rfl) ?_
 refine .v (.fieldAddr fd25_1 rfl) ?_
 refine .v (.loadBox on3 rfl bsp rfl) ?_
 refine .v (.build (parts := [(0, .tmp 17), (1, .tmp 19)]) (cs := #[.int .i64 a.s, .int .i64 b.s]) rfl (by kernel_rfl)) ?_
 refine AK.lit (xs := [.tmp 20]) sl65 el64 rfl rfl rfl (by intro a ha; simp at ha; subst ha; rfl) (by decide) (by decide) trivial rfl (fun l1 => ?_)
 refine AK.shape 2 rfl (fun s1 => ?_)
 refine AK.lit (xs := [.const (sv [])]) sl44 el9 rfl rfl rfl (by intro a ha; simp at ha; subst ha; rfl) (by decide) (by decide) trivial rfl (fun l2 => ?_)
 refine AK.shape 3 rfl (fun s2 => ?_)
 refine .as rfl (.as rfl (.nt hK2 ?_))
 refine .sr fun _ hK3 => ?_
 refine AK.makeMap trivial rfl (fun mb => ?_)
 refine .v (.fieldAddr fd25_1 rfl) ?_
 refine .v (.loadBox on3 rfl bsp rfl) ?_
 refine .v (.fieldAddr fd25_1 rfl) ?_
 refine .v (.loadBox on3 rfl bsp rfl) ?_
 refine AK.val (pv (a.s, b.s)) (Yl.build (parts := [(0, .tmp 25), (1, .tmp 27)]) (cs := #[.int .i64 a.s, .int .i64 b.s]) rfl (by kernel_rfl)) trivial rfl ?_
 refine AK.mapIns 4 (fk := pv) (fv := Value.bool) (m := ([] : List ((Int × Int) × Bool))) (a := (a.s, b.s)) (v := true) rfl mp66 (keyPair ar64.1 un3 sz3) rfl rfl rfl trivial ?_
 refine .mv rfl (.as rfl (.nt hK3 ?_))
 refine .seq fun _ hK4 => ?_
 refine .sr fun _ hK5 => ?_
 refine .as rfl (.nt hK5 (.block ?_))
 refine AK.loopK (X := Nat × Value × Value) [(2, _), (3, _), (4, _), (10, _)] (fun x => [(8, x.2.1), (9, x.2.2), (11, .int .i64 (x.1 : Int))]) (fun x => [box bx3 25 4 [.int .i64 a.L, .int .i64 a.s, aF, aN], box bx4 25 4 [.int .i64 b.L, .int .i64 b.s, bF, bN], row x.2.1 64 2 (exI (stepP a b) a.L.toNat (a.s, b.s) (0, 0) x.1).length (pcs (exI (stepP a b) a.L.toNat (a.s, b.s) (0, 0) x.1)), row x.2.2 9 1 (exIw (stepP a b) a.L.toNat (a.s, b.s) (0, 0) x.1).length ((exIw (stepP a b) a.L.toNat (a.s, b.s) (0, 0) x.1).map sv), mapA mb (mkv pv Value.bool (metM (exI (stepP a b) a.L.toNat (a.s, b.s) (0, 0) x.1)))]) (fun x => x.1 ≤ (exI (stepP a b) a.L.toNat (a.s, b.s) (0, 0) x.1).length ∧ (IsSl x.2.1 ∧ IsSl x.2.2) ∧ ∀ j, j < x.1 → finP a b op ((exI (stepP a b) a.L.toNat (a.s, b.s) (0, 0) x.1).getD j (0, 0)) = false) (fun x => a.fin.length * b.fin.length - x.1) ((0, l1, l2)) slr ?_ ?_ ?_ ?_
 ·exact ⟨Nat.zero_le _, ⟨s1, s2⟩, fun j hj => by cases hj⟩
 ·exact slr
 ·exact fun w hw => hw
 ·intro x hg0 _ hK6
  have hb0 := hbd x.1
  refine .seq fun _ hK7 => ?_
  refine .sr fun _ hK8 => ?_
  refine .mv rfl (.mv rfl ?_)
  refine .v (.lenR sl65 rfl (by first | exact rdp | exact .arg (haNi _ (by omega)) | exact .arg (hbNi _ (by omega)))) ?_
  refine .v (.lss rfl rfl) ?_
  refine .nt hK8 ?_
  refine AK.condD rfl (fun hc0 => ?_) (fun hc0 => ?_)
  ·have hlt : x.1 < (exI (stepP a b) a.L.toNat (a.s, b.s) (0, 0) x.1).length := by omega
   have hwl := exIw_len (f := (stepP a b)) (L := a.L.toNat) (s := (a.s, b.s)) (z := (0, 0)) x.1
   have hin := fun y hy => inB_univ2.1 ((hok x.1).2 y hy)
   obtain ⟨⟨hp1, hp2⟩, hp3, hp4⟩ := hin _ (getD_mem (d := (0, 0)) hlt)
   have hww := exIw_wd (f := (stepP a b)) (L := a.L.toNat) (s := (a.s, b.s)) (z := (0, 0)) x.1 x.1 (by rw [exIw_len]; exact hlt)
   refine .skip ?_
   refine AK.then_ (hK7 _ ?_)
   refine .seq fun _ hK9 => ?_
   refine .block ?_
   refine .seq fun _ hK10 => ?_
   refine AK.quiet mixed krf ?_
   refine .mv rfl (.mv rfl ?_)
   first | refine .v (.iN sl65 rfl rfl (hr := (by first | exact rdp | exact .arg (haNi _ (by omega)) | exact .arg (hbNi _ (by omega))))) ?_ | refine .v (.iK sl65 rfl rfl (hr := (by first | exact rdp | exact .arg (haNi _ (by omega)) | exact .arg (hbNi _ (by omega))))) ?_
   refine .v (.idxArrA 0 ar64 rfl rfl (by decide)) ?_
   refine QK.val (.int .i64 ((exI (stepP a b) a.L.toNat (a.s, b.s) (0, 0) x.1).getD x.1 (0, 0)).1) (Yl.loadPart (sz := 2) on3 rfl (RdS.own 2 rfl) (pcs_part hlt).1) trivial rfl ?_
   refine .mv rfl (.mv rfl ?_)
   first | refine .v (.iN sl65 rfl rfl (hr := (by first | exact rdp | exact .arg (haNi _ (by omega)) | exact .arg (hbNi _ (by omega))))) ?_ | refine .v (.iK sl65 rfl rfl (hr := (by first | exact rdp | exact .arg (haNi _ (by omega)) | exact .arg (hbNi _ (by omega))))) ?_
   refine .v (.idxArrA 1 ar64 rfl rfl (by decide)) ?_
   refine QK.val (.int .i64 ((exI (stepP a b) a.L.toNat (a.s, b.s) (0, 0) x.1).getD x.1 (0, 0)).2) (Yl.loadPart (sz := 2) on3 rfl (RdS.own 2 rfl) (pcs_part hlt).2) trivial rfl ?_
   refine .as rfl (.as rfl ?_)
   refine QK.nil (QK.fin ?_)
   refine AK.then_ (hK10 _ ?_)
   refine .seq fun _ hK11 => ?_
   refine .seq fun _ hK12 => ?_
   refine AK.stillTail 11 mixed krf (fun _ hws => ?_)
   refine .v hws (.move rfl) ?_
   refine .v hws (.fieldAddr fd25_2 rfl) ?_
   refine .v hws (.loadBox on22 rfl bsp rfl) ?_
   refine .v hws (.move rfl) ?_
   first | refine .v hws (.iN sl22 rfl rfl (hr := (by first | exact rdp | exact .arg (haNi _ (by omega)) | exact .arg (hbNi _ (by omega))))) ?_ | refine .v hws (.iK sl22 rfl rfl (hr := (by first | exact rdp | exact .arg (haNi _ (by omega)) | exact .arg (hbNi _ (by omega))))) ?_
   refine .v hws (.loadB on4 rfl (by first | exact rdp | exact .arg (haNi _ (by omega)) | exact .arg (hbNi _ (by omega))) (by omega)) ?_
   refine .v hws (.fieldAddr fd25_2 rfl) ?_
   refine .v hws (.loadBox on22 rfl bsp rfl) ?_
   refine .v hws (.move rfl) ?_
   first | refine .v hws (.iN sl22 rfl rfl (hr := (by first | exact rdp | exact .arg (haNi _ (by omega)) | exact .arg (hbNi _ (by omega))))) ?_ | refine .v hws (.iK sl22 rfl rfl (hr := (by first | exact rdp | exact .arg (haNi _ (by omega)) | exact .arg (hbNi _ (by omega))))) ?_
   refine .v hws (.loadB on4 rfl (by first | exact rdp | exact .arg (haNi _ (by omega)) | exact .arg (hbNi _ (by omega))) (by omega)) ?_
   refine SK.nil (SK.fin hws ?_)
   refine AK.call co40 rfl (fun w hw => s_by w op _ _ ho) trivial rfl ?_
   rintro r o ⟨rfl, rfl⟩
   refine .nt hK12 ?_
   refine AK.cond rfl (fun hc1 => ?_) (fun hc1 => ?_)
   ·try simp only [bs] at hc1
    have hwt : finP a b op ((exI (stepP a b) a.L.toNat (a.s, b.s) (0, 0) x.1).getD x.1 (0, 0)) = true := hc1
    refine .sr fun _ hK13 => ?_
    refine .mv rfl (.mv rfl ?_)
    first | refine .v (.iN sl44 rfl rfl (hr := (by first | exact rdp | exact .arg (haNi _ (by omega)) | exact .arg (hbNi _ (by omega))))) ?_ | refine .v (.iK sl44 rfl rfl (hr := (by first | exact rdp | exact .arg (haNi _ (by omega)) | exact .arg (hbNi _ (by omega))))) ?_
    refine .v (.loadS on9 rfl (by first | exact rdp | exact .arg (haNi _ (by omega)) | exact .arg (hbNi _ (by omega))) (by omega)) ?_
    refine .as rfl (.as rfl (.nt hK13 (.ret (.then_ret (.block_ret (.then_ret (.then_ret (.block_ret (.then_ret ?_)))))))))
    refine AK.ret2 rfl rfl rfl (fun w hw => ⟨_, _, ?_, rfl, Ret.of (hw.pick [] (by decide) rfl rfl)⟩)
    rw [show (SrcV (stepP a b) a.L.toNat (a.s, b.s) (0, 0) (univ2 a.fin.length b.fin.length).length (finP a b op)) = _ from src_some hst hcl hlt hg0.2.2 hwt]
    exact ⟨rfl, rfl⟩
   ·try simp only [bs] at hc1
    have hwf : finP a b op ((exI (stepP a b) a.L.toNat (a.s, b.s) (0, 0) x.1).getD x.1 (0, 0)) = false := hc1
    have hrw1 := ha.row ((exI (stepP a b) a.L.toNat (a.s, b.s) (0, 0) x.1).getD x.1 (0, 0)).1.toNat (by omega)
    have hrw2 := hb.row ((exI (stepP a b) a.L.toNat (a.s, b.s) (0, 0) x.1).getD x.1 (0, 0)).2.toNat (by omega)
    refine .skip ?_
    refine AK.then_ (hK11 _ ?_)
    refine .sr fun _ hK14 => ?_
    refine .as rfl (.nt hK14 (.block ?_))
    refine AK.loopK (X := Nat × Value × Value) [(2, _), (3, _), (4, _), (10, _), (11, _), (12, _), (13, _)] (fun y => [(8, y.2.1), (9, y.2.2), (14, .int .i64 (y.1 : Int))]) (fun y => [box bx3 25 4 [.int .i64 a.L, .int .i64 a.s, aF, aN], box bx4 25 4 [.int .i64 b.L, .int .i64 b.s, bF, bN], row y.2.1 64 2 (exR (stepP a b) ((exI (stepP a b) a.L.toNat (a.s, b.s) (0, 0) x.1).getD x.1 (0, 0)) (exI (stepP a b) a.L.toNat (a.s, b.s) (0, 0) x.1) y.1).length (pcs (exR (stepP a b) ((exI (stepP a b) a.L.toNat (a.s, b.s) (0, 0) x.1).getD x.1 (0, 0)) (exI (stepP a b) a.L.toNat (a.s, b.s) (0, 0) x.1) y.1)), row y.2.2 9 1 (exRw (stepP a b) ((exI (stepP a b) a.L.toNat (a.s, b.s) (0, 0) x.1).getD x.1 (0, 0)) ((exIw (stepP a b) a.L.toNat (a.s, b.s) (0, 0) x.1).getD x.1 []) (exI (stepP a b) a.L.toNat (a.s, b.s) (0, 0) x.1) (exIw (stepP a b) a.L.toNat (a.s, b.s) (0, 0) x.1) y.1).length ((exRw (stepP a b) ((exI (stepP a b) a.L.toNat (a.s, b.s) (0, 0) x.1).getD x.1 (0, 0)) ((exIw (stepP a b) a.L.toNat (a.s, b.s) (0, 0) x.1).getD x.1 []) (exI (stepP a b) a.L.toNat (a.s, b.s) (0, 0) x.1) (exIw (stepP a b) a.L.toNat (a.s, b.s) (0, 0) x.1) y.1).map sv), mapA mb (mkv pv Value.bool (metM (exR (stepP a b) ((exI (stepP a b) a.L.toNat (a.s, b.s) (0, 0) x.1).getD x.1 (0, 0)) (exI (stepP a b) a.L.toNat (a.s, b.s) (0, 0) x.1) y.1)))]) (fun y => (y.1 : Int) ≤ a.L ∧ IsSl y.2.1 ∧ IsSl y.2.2) (fun y => a.L.toNat - y.1) ((0, x.2.1, x.2.2)) slr ?_ ?_ ?_ ?_
    ·exact ⟨by dsimp only; omega, hg0.2.1⟩
    ·exact slr
    ·exact fun w hw => hw
    ·intro y hg1 _ hK15
     refine .seq fun _ hK16 => ?_
     refine .sr fun _ hK17 => ?_
     refine .mv rfl ?_
     refine .v (.fieldAddr fd25_0 rfl) ?_
     refine .v (.loadBox on3 rfl bsp rfl) ?_
     refine .v (.lss rfl rfl) ?_
     refine .nt hK17 ?_
     refine AK.condD rfl (fun hc2 => ?_) (fun hc2 => ?_)
     ·have hyL : y.1 < a.L.toNat := by omega
      have hrl := exR_bd (z := (0, 0)) hst hcl hlt (k := y.1) (by omega)
      rw [univ2_len] at hrl
      have hrl2 := exRw_len (f := (stepP a b)) (q := ((exI (stepP a b) a.L.toNat (a.s, b.s) (0, 0) x.1).getD x.1 (0, 0))) (wq := ((exIw (stepP a b) a.L.toNat (a.s, b.s) (0, 0) x.1).getD x.1 [])) hwl y.1
      have hgw : ((exRw (stepP a b) ((exI (stepP a b) a.L.toNat (a.s, b.s) (0, 0) x.1).getD x.1 (0, 0)) ((exIw (stepP a b) a.L.toNat (a.s, b.s) (0, 0) x.1).getD x.1 []) (exI (stepP a b) a.L.toNat (a.s, b.s) (0, 0) x.1) (exIw (stepP a b) a.L.toNat (a.s, b.s) (0, 0) x.1) y.1).getD x.1 []) = ((exIw (stepP a b) a.L.toNat (a.s, b.s) (0, 0) x.1).getD x.1 []) := exRw_get _ (by omega)
      have hrp : (exIw (stepP a b) a.L.toNat (a.s, b.s) (0, 0) x.1).length ≤ (exRw (stepP a b) ((exI (stepP a b) a.L.toNat (a.s, b.s) (0, 0) x.1).getD x.1 (0, 0)) ((exIw (stepP a b) a.L.toNat (a.s, b.s) (0, 0) x.1).getD x.1 []) (exI (stepP a b) a.L.toNat (a.s, b.s) (0, 0) x.1) (exIw (stepP a b) a.L.toNat (a.s, b.s) (0, 0) x.1) y.1).length := by obtain ⟨ys, e⟩ := exRw_pre (stepP a b) ((exI (stepP a b) a.L.toNat (a.s, b.s) (0, 0) x.1).getD x.1 (0, 0)) ((exIw (stepP a b) a.L.toNat (a.s, b.s) (0, 0) x.1).getD x.1 []) (exI (stepP a b) a.L.toNat (a.s, b.s) (0, 0) x.1) (exIw (stepP a b) a.L.toNat (a.s, b.s) (0, 0) x.1) y.1; rw [e, List.length_append]; omega
      refine .skip ?_
      refine AK.then_ (hK16 _ ?_)
      refine .seq fun _ hK18 => ?_
      refine .block ?_
      refine .seq fun _ hK19 => ?_
      refine AK.joinK (X := Nat) [(2, _), (3, _), (4, _), (8, _), (9, _), (10, _), (11, _), (12, _), (13, _), (14, _)] (fun bn => [(15, .pointer (some ⟨bn, 0, none⟩))]) (fun bn => [box bx3 25 4 [.int .i64 a.L, .int .i64 a.s, aF, aN], box bx4 25 4 [.int .i64 b.L, .int .i64 b.s, bF, bN], row y.2.1 64 2 (exR (stepP a b) ((exI (stepP a b) a.L.toNat (a.s, b.s) (0, 0) x.1).getD x.1 (0, 0)) (exI (stepP a b) a.L.toNat (a.s, b.s) (0, 0) x.1) y.1).length (pcs (exR (stepP a b) ((exI (stepP a b) a.L.toNat (a.s, b.s) (0, 0) x.1).getD x.1 (0, 0)) (exI (stepP a b) a.L.toNat (a.s, b.s) (0, 0) x.1) y.1)), row y.2.2 9 1 (exRw (stepP a b) ((exI (stepP a b) a.L.toNat (a.s, b.s) (0, 0) x.1).getD x.1 (0, 0)) ((exIw (stepP a b) a.L.toNat (a.s, b.s) (0, 0) x.1).getD x.1 []) (exI (stepP a b) a.L.toNat (a.s, b.s) (0, 0) x.1) (exIw (stepP a b) a.L.toNat (a.s, b.s) (0, 0) x.1) y.1).length ((exRw (stepP a b) ((exI (stepP a b) a.L.toNat (a.s, b.s) (0, 0) x.1).getD x.1 (0, 0)) ((exIw (stepP a b) a.L.toNat (a.s, b.s) (0, 0) x.1).getD x.1 []) (exI (stepP a b) a.L.toNat (a.s, b.s) (0, 0) x.1) (exIw (stepP a b) a.L.toNat (a.s, b.s) (0, 0) x.1) y.1).map sv), mapA mb (mkv pv Value.bool (metM (exR (stepP a b) ((exI (stepP a b) a.L.toNat (a.s, b.s) (0, 0) x.1).getD x.1 (0, 0)) (exI (stepP a b) a.L.toNat (a.s, b.s) (0, 0) x.1) y.1))), box bn 64 2 [.int .i64 ((a.nx.getD ((exI (stepP a b) a.L.toNat (a.s, b.s) (0, 0) x.1).getD x.1 (0, 0)).1.toNat []).getD y.1 0), .int .i64 ((b.nx.getD ((exI (stepP a b) a.L.toNat (a.s, b.s) (0, 0) x.1).getD x.1 (0, 0)).2.toNat []).getD y.1 0)]]) (fun bn => True) slr (fun _ hJ => ?_) (fun bn hg => ?_)
      ·try (conv => enter [2, 2]; dsimp only [List.set_cons_zero, List.set_cons_succ, List.cons_append, List.nil_append])
       refine AK.held 18 mixed ?_
       refine HeldK.first 0 (fuel := 18) (listed' := (lb 19 1)) _ rfl krf krf rfl (Yl.fieldAddr fd25_3 rfl) trivial rfl ?_
       refine HeldK.first 1 (fuel := 17) (listed' := (lb 19 3)) _ rfl krf krf rfl (Yl.loadBox on23 rfl bsp rfl) trivial rfl ?_
       refine HeldK.first 2 (fuel := 16) (listed' := (lb 19 7)) _ rfl krf krf rfl (Yl.move rfl) trivial rfl ?_
       first | refine HeldK.first 3 (fuel := 15) (listed' := (lb 19 15)) _ rfl krf krf rfl (.iN sl23 rfl rfl (hr := (by first | exact rdp | exact .arg (haNi _ (by omega)) | exact .arg (hbNi _ (by omega))))) trivial rfl ?_ | refine HeldK.first 3 (fuel := 15) (listed' := (lb 19 15)) _ rfl krf krf rfl (.iK sl23 rfl rfl (hr := (by first | exact rdp | exact .arg (haNi _ (by omega)) | exact .arg (hbNi _ (by omega))))) trivial rfl ?_
       refine HeldK.first 4 (fuel := 14) (listed' := (lb 19 31)) _ rfl krf krf rfl (Yl.loadV on26 rfl (by first | exact rdp | exact .arg (haNi _ (by omega)) | exact .arg (hbNi _ (by omega))) (by omega)) trivial rfl ?_
       refine HeldK.first 5 (fuel := 13) (listed' := (lb 19 63)) _ rfl krf krf rfl (Yl.move rfl) trivial rfl ?_
       first | refine HeldK.first 6 (fuel := 12) (listed' := (lb 19 127)) _ rfl krf krf rfl (.iN sl26 rfl rfl (hr := (by first | exact rdp | exact .arg (haNi _ (by omega)) | exact .arg (hbNi _ (by omega))))) trivial rfl ?_ | refine HeldK.first 6 (fuel := 12) (listed' := (lb 19 127)) _ rfl krf krf rfl (.iK sl26 rfl rfl (hr := (by first | exact rdp | exact .arg (haNi _ (by omega)) | exact .arg (hbNi _ (by omega))))) trivial rfl ?_
       refine HeldK.first 7 (fuel := 11) (listed' := (lb 19 255)) _ rfl krf krf rfl (Yl.loadI on3 rfl (by first | exact rdp | exact .arg (haNi _ (by omega)) | exact .arg (hbNi _ (by omega))) (by omega)) trivial rfl ?_
       refine HeldK.first 8 (fuel := 10) (listed' := (lb 19 511)) _ rfl krf krf rfl (Yl.fieldAddr fd25_3 rfl) trivial rfl ?_
       refine HeldK.first 9 (fuel := 9) (listed' := (lb 19 1023)) _ rfl krf krf rfl (Yl.loadBox on23 rfl bsp rfl) trivial rfl ?_
       refine HeldK.first 10 (fuel := 8) (listed' := (lb 19 2047)) _ rfl krf krf rfl (Yl.move rfl) trivial rfl ?_
       first | refine HeldK.first 11 (fuel := 7) (listed' := (lb 19 4095)) _ rfl krf krf rfl (.iN sl23 rfl rfl (hr := (by first | exact rdp | exact .arg (haNi _ (by omega)) | exact .arg (hbNi _ (by omega))))) trivial rfl ?_ | refine HeldK.first 11 (fuel := 7) (listed' := (lb 19 4095)) _ rfl krf krf rfl (.iK sl23 rfl rfl (hr := (by first | exact rdp | exact .arg (haNi _ (by omega)) | exact .arg (hbNi _ (by omega))))) trivial rfl ?_
       refine HeldK.first 12 (fuel := 6) (listed' := (lb 19 8191)) _ rfl krf krf rfl (Yl.loadV on26 rfl (by first | exact rdp | exact .arg (haNi _ (by omega)) | exact .arg (hbNi _ (by omega))) (by omega)) trivial rfl ?_
       refine HeldK.first 13 (fuel := 5) (listed' := (lb 19 16383)) _ rfl krf krf rfl (Yl.move rfl) trivial rfl ?_
       first | refine HeldK.first 14 (fuel := 4) (listed' := (lb 19 32767)) _ rfl krf krf rfl (.iN sl26 rfl rfl (hr := (by first | exact rdp | exact .arg (haNi _ (by omega)) | exact .arg (hbNi _ (by omega))))) trivial rfl ?_ | refine HeldK.first 14 (fuel := 4) (listed' := (lb 19 32767)) _ rfl krf krf rfl (.iK sl26 rfl rfl (hr := (by first | exact rdp | exact .arg (haNi _ (by omega)) | exact .arg (hbNi _ (by omega))))) trivial rfl ?_
       refine HeldK.first 15 (fuel := 3) (listed' := (lb 19 65535)) _ rfl krf krf rfl (Yl.loadI on3 rfl (by first | exact rdp | exact .arg (haNi _ (by omega)) | exact .arg (hbNi _ (by omega))) (by omega)) trivial rfl ?_
       refine HeldK.first 16 (fuel := 2) (listed' := (lb 19 131071)) _ rfl krf krf rfl (Yl.build (parts := [(0, .tmp 75), (1, .tmp 83)]) (cs := #[.int .i64 ((a.nx.getD ((exI (stepP a b) a.L.toNat (a.s, b.s) (0, 0) x.1).getD x.1 (0, 0)).1.toNat []).getD y.1 0), .int .i64 ((b.nx.getD ((exI (stepP a b) a.L.toNat (a.s, b.s) (0, 0) x.1).getD x.1 (0, 0)).2.toNat []).getD y.1 0)]) rfl (by kernel_rfl)) trivial rfl ?_
       refine HeldK.one 17 (fuel := 1) (listed' := (lb 19 262143)) krf rfl krf ?_
       refine AK.alloc el64 rfl rfl trivial rfl (fun bx15 => ?_)
       refine .nil ?_
       try (conv => enter [2, 2]; dsimp only [List.set_cons_zero, List.set_cons_succ, List.cons_append, List.nil_append])
       refine HeldK.back hle ?_
       refine HeldK.one 18 (fuel := 0) (listed' := (lb 19 524287)) krf rfl krf ?_
       refine AK.storeBox 5 (us := [.int .i64 ((a.nx.getD ((exI (stepP a b) a.L.toNat (a.s, b.s) (0, 0) x.1).getD x.1 (0, 0)).1.toNat []).getD y.1 0), .int .i64 ((b.nx.getD ((exI (stepP a b) a.L.toNat (a.s, b.s) (0, 0) x.1).getD x.1 (0, 0)).2.toNat []).getD y.1 0)]) (cs' := [.int .i64 ((a.nx.getD ((exI (stepP a b) a.L.toNat (a.s, b.s) (0, 0) x.1).getD x.1 (0, 0)).1.toNat []).getD y.1 0), .int .i64 ((b.nx.getD ((exI (stepP a b) a.L.toNat (a.s, b.s) (0, 0) x.1).getD x.1 (0, 0)).2.toNat []).getD y.1 0)]) rfl sz64 rfl rfl rfl rfl oneP (Nat.le_of_ble_eq_true rfl) rfl trivial ?_
       refine .nil ?_
       try (conv => enter [2, 2]; dsimp only [List.set_cons_zero, List.set_cons_succ, List.cons_append, List.nil_append])
       refine HeldK.backN 19 krf rfl krf ?_
       refine .nil ?_
       refine AK.fromQn ?_
       exact hJ _ _ (bx15) trivial (slr) (fun w hw => by first | exact hw.pickLe [0, 1, 2, 3, 4, 5] (by decide) pkl)
      ·skip
       refine AK.then_ (hK19 _ ?_)
       refine .sr fun _ hK20 => ?_
       refine .mv rfl ?_
       refine AK.val (pv (stepP a b ((exI (stepP a b) a.L.toNat (a.s, b.s) (0, 0) x.1).getD x.1 (0, 0)) y.1)) (Yl.loadBoxP ag64 rfl (BoxS.own 5 rfl)) trivial rfl ?_
       refine AK.val (.bool (decide ((stepP a b ((exI (stepP a b) a.L.toNat (a.s, b.s) (0, 0) x.1).getD x.1 (0, 0)) y.1) ∈ (exR (stepP a b) ((exI (stepP a b) a.L.toNat (a.s, b.s) (0, 0) x.1).getD x.1 (0, 0)) (exI (stepP a b) a.L.toNat (a.s, b.s) (0, 0) x.1) y.1)))) (Yl.valE (Yl.lookup1 (fv := Value.bool) (m := metM (exR (stepP a b) ((exI (stepP a b) a.L.toNat (a.s, b.s) (0, 0) x.1).getD x.1 (0, 0)) (exI (stepP a b) a.L.toNat (a.s, b.s) (0, 0) x.1) y.1)) (a := (stepP a b ((exI (stepP a b) a.L.toNat (a.s, b.s) (0, 0) x.1).getD x.1 (0, 0)) y.1)) mp66 (keyPair ar64.1 un3 sz3) el4 rfl rfl (.own 4 rfl)) (metM_get _ _)) trivial rfl ?_
       refine .v (.not rfl) ?_
       refine .nt hK20 ?_
       refine AK.condB rfl (fun hc3 => ?_) (fun hc3 => ?_)
       ·have hni : (stepP a b ((exI (stepP a b) a.L.toNat (a.s, b.s) (0, 0) x.1).getD x.1 (0, 0)) y.1) ∉ (exR (stepP a b) ((exI (stepP a b) a.L.toNat (a.s, b.s) (0, 0) x.1).getD x.1 (0, 0)) (exI (stepP a b) a.L.toNat (a.s, b.s) (0, 0) x.1) y.1) := of_decide_eq_false hc3
        refine .sr fun _ hK21 => ?_
        refine .mv rfl ?_
        refine AK.val (pv (stepP a b ((exI (stepP a b) a.L.toNat (a.s, b.s) (0, 0) x.1).getD x.1 (0, 0)) y.1)) (Yl.loadBoxP ag64 rfl (BoxS.own 5 rfl)) trivial rfl ?_
        refine AK.mapSet 4 (fk := pv) (fv := Value.bool) (m := metM (exR (stepP a b) ((exI (stepP a b) a.L.toNat (a.s, b.s) (0, 0) x.1).getD x.1 (0, 0)) (exI (stepP a b) a.L.toNat (a.s, b.s) (0, 0) x.1) y.1)) (a := (stepP a b ((exI (stepP a b) a.L.toNat (a.s, b.s) (0, 0) x.1).getD x.1 (0, 0)) y.1)) (v := true) rfl mp66 (keyPair ar64.1 un3 sz3) rfl rfl rfl trivial ?_
        refine .nt hK21 ?_
        refine AK.joinK (X := Value × Value) [(2, _), (3, _), (4, _), (10, _), (11, _), (12, _), (13, _), (14, _)] (fun zz => [(8, zz.1), (9, zz.2)]) (fun zz => [box bx3 25 4 [.int .i64 a.L, .int .i64 a.s, aF, aN], box bx4 25 4 [.int .i64 b.L, .int .i64 b.s, bF, bN], row zz.1 64 2 ((exR (stepP a b) ((exI (stepP a b) a.L.toNat (a.s, b.s) (0, 0) x.1).getD x.1 (0, 0)) (exI (stepP a b) a.L.toNat (a.s, b.s) (0, 0) x.1) y.1).length + 1) (pcs (exR (stepP a b) ((exI (stepP a b) a.L.toNat (a.s, b.s) (0, 0) x.1).getD x.1 (0, 0)) (exI (stepP a b) a.L.toNat (a.s, b.s) (0, 0) x.1) y.1) ++ [pv (stepP a b ((exI (stepP a b) a.L.toNat (a.s, b.s) (0, 0) x.1).getD x.1 (0, 0)) y.1)].flatMap (·.cells.toList)), row zz.2 9 1 ((exRw (stepP a b) ((exI (stepP a b) a.L.toNat (a.s, b.s) (0, 0) x.1).getD x.1 (0, 0)) ((exIw (stepP a b) a.L.toNat (a.s, b.s) (0, 0) x.1).getD x.1 []) (exI (stepP a b) a.L.toNat (a.s, b.s) (0, 0) x.1) (exIw (stepP a b) a.L.toNat (a.s, b.s) (0, 0) x.1) y.1).length + 1) ((exRw (stepP a b) ((exI (stepP a b) a.L.toNat (a.s, b.s) (0, 0) x.1).getD x.1 (0, 0)) ((exIw (stepP a b) a.L.toNat (a.s, b.s) (0, 0) x.1).getD x.1 []) (exI (stepP a b) a.L.toNat (a.s, b.s) (0, 0) x.1) (exIw (stepP a b) a.L.toNat (a.s, b.s) (0, 0) x.1) y.1).map sv ++ [sv ((exRw (stepP a b) ((exI (stepP a b) a.L.toNat (a.s, b.s) (0, 0) x.1).getD x.1 (0, 0)) ((exIw (stepP a b) a.L.toNat (a.s, b.s) (0, 0) x.1).getD x.1 []) (exI (stepP a b) a.L.toNat (a.s, b.s) (0, 0) x.1) (exIw (stepP a b) a.L.toNat (a.s, b.s) (0, 0) x.1) y.1).getD x.1 [] ++ [ltr y.1])].flatMap (·.cells.toList)), mapA mb (mkv pv Value.bool (mset (metM (exR (stepP a b) ((exI (stepP a b) a.L.toNat (a.s, b.s) (0, 0) x.1).getD x.1 (0, 0)) (exI (stepP a b) a.L.toNat (a.s, b.s) (0, 0) x.1) y.1)) (stepP a b ((exI (stepP a b) a.L.toNat (a.s, b.s) (0, 0) x.1).getD x.1 (0, 0)) y.1) true))]) (fun zz => IsSl zz.1 ∧ IsSl zz.2) slr (fun _ hJ => ?_) (fun zz hg => ?_)
        ·try (conv => enter [2, 2]; dsimp only [List.set_cons_zero, List.set_cons_succ, List.cons_append, List.nil_append])
         refine AK.held 19 mixed ?_
         refine HeldK.first 0 (fuel := 18) (listed' := (lb 19 1)) _ rfl krf krf rfl (Yl.move rfl) trivial rfl ?_
         refine HeldK.first 1 (fuel := 17) (listed' := (lb 19 3)) _ rfl krf krf rfl (Yl.loadBoxP ag64 rfl (BoxS.own 5 rfl)) trivial rfl ?_
         refine HeldK.first 4 (fuel := 16) (listed' := (lb 19 19)) _ rfl krf krf rfl (Yl.move rfl) trivial rfl ?_
         refine HeldK.first 5 (fuel := 15) (listed' := (lb 19 51)) _ rfl krf krf rfl (Yl.move rfl) trivial rfl ?_
         refine HeldK.first 6 (fuel := 14) (listed' := (lb 19 115)) _ rfl krf krf rfl (Yl.move rfl) trivial rfl ?_
         first | refine HeldK.first 7 (fuel := 13) (listed' := (lb 19 243)) _ rfl krf krf rfl (.iN sl44 rfl rfl (hr := (by first | exact rdp | exact .arg (haNi _ (by omega)) | exact .arg (hbNi _ (by omega))))) trivial rfl ?_ | refine HeldK.first 7 (fuel := 13) (listed' := (lb 19 243)) _ rfl krf krf rfl (.iK sl44 rfl rfl (hr := (by first | exact rdp | exact .arg (haNi _ (by omega)) | exact .arg (hbNi _ (by omega))))) trivial rfl ?_
         refine HeldK.first 8 (fuel := 12) (listed' := (lb 19 499)) _ rfl krf krf rfl (Yl.loadS on9 rfl (by first | exact rdp | exact .arg (haNi _ (by omega)) | exact .arg (hbNi _ (by omega))) (by omega)) trivial rfl ?_
         refine HeldK.first 9 (fuel := 11) (listed' := (lb 19 1011)) _ rfl krf krf rfl (Yl.move rfl) trivial rfl ?_
         refine HeldK.first 10 (fuel := 10) (listed' := (lb 19 2035)) _ rfl krf krf rfl (Yl.add rfl rfl (by omega)) trivial rfl ?_
         refine HeldK.first 11 (fuel := 9) (listed' := (lb 19 4083)) _ rfl krf krf rfl (Yl.convI (by kernel_rfl) un5 rfl (wrap_u8 (by omega))) trivial rfl ?_
         refine HeldK.two 2 12 (fuel := 8) (listed1 := (lb 19 4087)) (listed2 := (lb 19 8179)) krf rfl rfl krf krf ?_ ?_
         ·refine AK.lit (xs := [.tmp 92]) sl65 el64 rfl rfl rfl (by intro a ha; simp at ha; subst ha; rfl) (by decide) (by decide) trivial rfl (fun t1 => ?_)
          refine .nil ?_
          try (conv => enter [2, 2]; dsimp only [List.set_cons_zero, List.set_cons_succ, List.cons_append, List.nil_append])
          refine HeldK.back hle ?_
          refine HeldK.two 3 12 (fuel := 7) (listed1 := (lb 19 4095)) (listed2 := (lb 19 8183)) krf rfl rfl krf krf ?_ ?_
          ·refine AK.appendH 2 rfl sl65 el64 rfl (by decide) rfl rfl rfl (by first | exact rdp | exact .arg (haNi _ (by omega)) | exact .arg (hbNi _ (by omega))) (by intro u hu; simp [pv, Value.cells] at hu; rcases hu with rfl | rfl <;> rfl) (by omega) (by omega) trivial rfl (fun va hva => ?_)
           refine .nil ?_
           try (conv => enter [2, 2]; dsimp only [List.set_cons_zero, List.set_cons_succ, List.cons_append, List.nil_append])
           refine HeldK.back hle ?_
           refine HeldK.one 12 (fuel := 6) (listed' := (lb 19 8191)) krf rfl krf ?_
           refine AK.lit (xs := [.tmp 102]) sl68 el5 rfl rfl rfl (by intro a ha; simp at ha; subst ha; rfl) (by decide) (by decide) trivial rfl (fun t2 => ?_)
           refine .nil ?_
           try (conv => enter [2, 2]; dsimp only [List.set_cons_zero, List.set_cons_succ, List.cons_append, List.nil_append])
           refine HeldK.back hle ?_
           first | refine HeldK.first 13 (fuel := 5) (listed' := (lb 19 16383)) _ rfl krf krf rfl (Yl.bytesLtr 7 y.1 rfl (by omega) sl68.1 un5 un9 rfl) trivial rfl ?_ | refine HeldK.first 13 (fuel := 5) (listed' := (lb 19 16383)) _ rfl krf krf rfl (Yl.bytesLtr 6 y.1 rfl (by omega) sl68.1 un5 un9 rfl) trivial rfl ?_
           refine HeldK.first 14 (fuel := 4) (listed' := (lb 19 32767)) _ rfl krf krf rfl (Yl.concat rfl rfl (by rw [hgw]; simp only [List.length_cons, List.length_nil]; omega)) trivial rfl ?_
           refine HeldK.one 15 (fuel := 3) (listed' := (lb 19 65535)) krf rfl krf ?_
           refine AK.lit (xs := [.tmp 105]) sl44 el9 rfl rfl rfl (by intro a ha; simp at ha; subst ha; rfl) (by decide) (by decide) trivial rfl (fun t3 => ?_)
           refine .nil ?_
           try (conv => enter [2, 2]; dsimp only [List.set_cons_zero, List.set_cons_succ, List.cons_append, List.nil_append])
           refine HeldK.back hle ?_
           refine HeldK.one 16 (fuel := 2) (listed' := (lb 19 131071)) krf rfl krf ?_
           refine AK.appendH 3 rfl sl44 el9 rfl (by decide) rfl rfl rfl (by first | exact rdp | exact .arg (haNi _ (by omega)) | exact .arg (hbNi _ (by omega))) oneP (by omega) (by omega) trivial rfl (fun vb hvb => ?_)
           refine .nil ?_
           try (conv => enter [2, 2]; dsimp only [List.set_cons_zero, List.set_cons_succ, List.cons_append, List.nil_append])
           refine HeldK.back hle ?_
           refine HeldK.first 17 (fuel := 1) (listed' := (lb 19 262143)) _ rfl krf krf rfl (Yl.assign rfl) trivial rfl ?_
           refine HeldK.first 18 (fuel := 0) (listed' := (lb 19 524287)) _ rfl krf krf rfl (Yl.assign rfl) trivial rfl ?_
           refine HeldK.done krf ?_
           exact hJ _ _ ((va, vb)) ⟨hva, hvb⟩ (slr) (fun w hw => by first | exact hw.pickLe [0, 1, 2, 3, 4] (by decide) pkl)
          ·refine AK.lit (xs := [.tmp 102]) sl68 el5 rfl rfl rfl (by intro a ha; simp at ha; subst ha; rfl) (by decide) (by decide) trivial rfl (fun t2 => ?_)
           refine .nil ?_
           try (conv => enter [2, 2]; dsimp only [List.set_cons_zero, List.set_cons_succ, List.cons_append, List.nil_append])
           refine HeldK.back hle ?_
           first | refine HeldK.first 13 (fuel := 6) (listed' := (lb 19 16375)) _ rfl krf krf rfl (Yl.bytesLtr 7 y.1 rfl (by omega) sl68.1 un5 un9 rfl) trivial rfl ?_ | refine HeldK.first 13 (fuel := 6) (listed' := (lb 19 16375)) _ rfl krf krf rfl (Yl.bytesLtr 6 y.1 rfl (by omega) sl68.1 un5 un9 rfl) trivial rfl ?_
           refine HeldK.first 14 (fuel := 5) (listed' := (lb 19 32759)) _ rfl krf krf rfl (Yl.concat rfl rfl (by rw [hgw]; simp only [List.length_cons, List.length_nil]; omega)) trivial rfl ?_
           refine HeldK.two 3 15 (fuel := 4) (listed1 := (lb 19 32767)) (listed2 := (lb 19 65527)) krf rfl rfl krf krf ?_ ?_
           ·refine AK.appendH 2 rfl sl65 el64 rfl (by decide) rfl rfl rfl (by first | exact rdp | exact .arg (haNi _ (by omega)) | exact .arg (hbNi _ (by omega))) (by intro u hu; simp [pv, Value.cells] at hu; rcases hu with rfl | rfl <;> rfl) (by omega) (by omega) trivial rfl (fun va hva => ?_)
            refine .nil ?_
            try (conv => enter [2, 2]; dsimp only [List.set_cons_zero, List.set_cons_succ, List.cons_append, List.nil_append])
            refine HeldK.back hle ?_
            refine HeldK.one 15 (fuel := 3) (listed' := (lb 19 65535)) krf rfl krf ?_
            refine AK.lit (xs := [.tmp 105]) sl44 el9 rfl rfl rfl (by intro a ha; simp at ha; subst ha; rfl) (by decide) (by decide) trivial rfl (fun t3 => ?_)
            refine .nil ?_
            try (conv => enter [2, 2]; dsimp only [List.set_cons_zero, List.set_cons_succ, List.cons_append, List.nil_append])
            refine HeldK.back hle ?_
            refine HeldK.one 16 (fuel := 2) (listed' := (lb 19 131071)) krf rfl krf ?_
            refine AK.appendH 3 rfl sl44 el9 rfl (by decide) rfl rfl rfl (by first | exact rdp | exact .arg (haNi _ (by omega)) | exact .arg (hbNi _ (by omega))) oneP (by omega) (by omega) trivial rfl (fun vb hvb => ?_)
            refine .nil ?_
            try (conv => enter [2, 2]; dsimp only [List.set_cons_zero, List.set_cons_succ, List.cons_append, List.nil_append])
            refine HeldK.back hle ?_
            refine HeldK.first 17 (fuel := 1) (listed' := (lb 19 262143)) _ rfl krf krf rfl (Yl.assign rfl) trivial rfl ?_
            refine HeldK.first 18 (fuel := 0) (listed' := (lb 19 524287)) _ rfl krf krf rfl (Yl.assign rfl) trivial rfl ?_
            refine HeldK.done krf ?_
            exact hJ _ _ ((va, vb)) ⟨hva, hvb⟩ (slr) (fun w hw => by first | exact hw.pickLe [0, 1, 2, 3, 4] (by decide) pkl)
           ·refine AK.lit (xs := [.tmp 105]) sl44 el9 rfl rfl rfl (by intro a ha; simp at ha; subst ha; rfl) (by decide) (by decide) trivial rfl (fun t3 => ?_)
            refine .nil ?_
            try (conv => enter [2, 2]; dsimp only [List.set_cons_zero, List.set_cons_succ, List.cons_append, List.nil_append])
            refine HeldK.back hle ?_
            refine HeldK.one 3 (fuel := 3) (listed' := (lb 19 65535)) krf rfl krf ?_
            refine AK.appendH 2 rfl sl65 el64 rfl (by decide) rfl rfl rfl (by first | exact rdp | exact .arg (haNi _ (by omega)) | exact .arg (hbNi _ (by omega))) (by intro u hu; simp [pv, Value.cells] at hu; rcases hu with rfl | rfl <;> rfl) (by omega) (by omega) trivial rfl (fun va hva => ?_)
            refine .nil ?_
            try (conv => enter [2, 2]; dsimp only [List.set_cons_zero, List.set_cons_succ, List.cons_append, List.nil_append])
            refine HeldK.back hle ?_
            refine HeldK.one 16 (fuel := 2) (listed' := (lb 19 131071)) krf rfl krf ?_
            refine AK.appendH 3 rfl sl44 el9 rfl (by decide) rfl rfl rfl (by first | exact rdp | exact .arg (haNi _ (by omega)) | exact .arg (hbNi _ (by omega))) oneP (by omega) (by omega) trivial rfl (fun vb hvb => ?_)
            refine .nil ?_
            try (conv => enter [2, 2]; dsimp only [List.set_cons_zero, List.set_cons_succ, List.cons_append, List.nil_append])
            refine HeldK.back hle ?_
            refine HeldK.first 17 (fuel := 1) (listed' := (lb 19 262143)) _ rfl krf krf rfl (Yl.assign rfl) trivial rfl ?_
            refine HeldK.first 18 (fuel := 0) (listed' := (lb 19 524287)) _ rfl krf krf rfl (Yl.assign rfl) trivial rfl ?_
            refine HeldK.done krf ?_
            exact hJ _ _ ((va, vb)) ⟨hva, hvb⟩ (slr) (fun w hw => by first | exact hw.pickLe [0, 1, 2, 3, 4] (by decide) pkl)
         ·refine AK.lit (xs := [.tmp 102]) sl68 el5 rfl rfl rfl (by intro a ha; simp at ha; subst ha; rfl) (by decide) (by decide) trivial rfl (fun t2 => ?_)
          refine .nil ?_
          try (conv => enter [2, 2]; dsimp only [List.set_cons_zero, List.set_cons_succ, List.cons_append, List.nil_append])
          refine HeldK.back hle ?_
          first | refine HeldK.first 13 (fuel := 7) (listed' := (lb 19 16371)) _ rfl krf krf rfl (Yl.bytesLtr 7 y.1 rfl (by omega) sl68.1 un5 un9 rfl) trivial rfl ?_ | refine HeldK.first 13 (fuel := 7) (listed' := (lb 19 16371)) _ rfl krf krf rfl (Yl.bytesLtr 6 y.1 rfl (by omega) sl68.1 un5 un9 rfl) trivial rfl ?_
          refine HeldK.first 14 (fuel := 6) (listed' := (lb 19 32755)) _ rfl krf krf rfl (Yl.concat rfl rfl (by rw [hgw]; simp only [List.length_cons, List.length_nil]; omega)) trivial rfl ?_
          refine HeldK.two 2 15 (fuel := 5) (listed1 := (lb 19 32759)) (listed2 := (lb 19 65523)) krf rfl rfl krf krf ?_ ?_
          ·refine AK.lit (xs := [.tmp 92]) sl65 el64 rfl rfl rfl (by intro a ha; simp at ha; subst ha; rfl) (by decide) (by decide) trivial rfl (fun t1 => ?_)
           refine .nil ?_
           try (conv => enter [2, 2]; dsimp only [List.set_cons_zero, List.set_cons_succ, List.cons_append, List.nil_append])
           refine HeldK.back hle ?_
           refine HeldK.two 3 15 (fuel := 4) (listed1 := (lb 19 32767)) (listed2 := (lb 19 65527)) krf rfl rfl krf krf ?_ ?_
           ·refine AK.appendH 2 rfl sl65 el64 rfl (by decide) rfl rfl rfl (by first | exact rdp | exact .arg (haNi _ (by omega)) | exact .arg (hbNi _ (by omega))) (by intro u hu; simp [pv, Value.cells] at hu; rcases hu with rfl | rfl <;> rfl) (by omega) (by omega) trivial rfl (fun va hva => ?_)
            refine .nil ?_
            try (conv => enter [2, 2]; dsimp only [List.set_cons_zero, List.set_cons_succ, List.cons_append, List.nil_append])
            refine HeldK.back hle ?_
            refine HeldK.one 15 (fuel := 3) (listed' := (lb 19 65535)) krf rfl krf ?_
            refine AK.lit (xs := [.tmp 105]) sl44 el9 rfl rfl rfl (by intro a ha; simp at ha; subst ha; rfl) (by decide) (by decide) trivial rfl (fun t3 => ?_)
            refine .nil ?_
            try (conv => enter [2, 2]; dsimp only [List.set_cons_zero, List.set_cons_succ, List.cons_append, List.nil_append])
            refine HeldK.back hle ?_
            refine HeldK.one 16 (fuel := 2) (listed' := (lb 19 131071)) krf rfl krf ?_
            refine AK.appendH 3 rfl sl44 el9 rfl (by decide) rfl rfl rfl (by first | exact rdp | exact .arg (haNi _ (by omega)) | exact .arg (hbNi _ (by omega))) oneP (by omega) (by omega) trivial rfl (fun vb hvb => ?_)
            refine .nil ?_
            try (conv => enter [2, 2]; dsimp only [List.set_cons_zero, List.set_cons_succ, List.cons_append, List.nil_append])
            refine HeldK.back hle ?_
            refine HeldK.first 17 (fuel := 1) (listed' := (lb 19 262143)) _ rfl krf krf rfl (Yl.assign rfl) trivial rfl ?_
            refine HeldK.first 18 (fuel := 0) (listed' := (lb 19 524287)) _ rfl krf krf rfl (Yl.assign rfl) trivial rfl ?_
            refine HeldK.done krf ?_
            exact hJ _ _ ((va, vb)) ⟨hva, hvb⟩ (slr) (fun w hw => by first | exact hw.pickLe [0, 1, 2, 3, 4] (by decide) pkl)
           ·refine AK.lit (xs := [.tmp 105]) sl44 el9 rfl rfl rfl (by intro a ha; simp at ha; subst ha; rfl) (by decide) (by decide) trivial rfl (fun t3 => ?_)
            refine .nil ?_
            try (conv => enter [2, 2]; dsimp only [List.set_cons_zero, List.set_cons_succ, List.cons_append, List.nil_append])
            refine HeldK.back hle ?_
            refine HeldK.one 3 (fuel := 3) (listed' := (lb 19 65535)) krf rfl krf ?_
            refine AK.appendH 2 rfl sl65 el64 rfl (by decide) rfl rfl rfl (by first | exact rdp | exact .arg (haNi _ (by omega)) | exact .arg (hbNi _ (by omega))) (by intro u hu; simp [pv, Value.cells] at hu; rcases hu with rfl | rfl <;> rfl) (by omega) (by omega) trivial rfl (fun va hva => ?_)
            refine .nil ?_
            try (conv => enter [2, 2]; dsimp only [List.set_cons_zero, List.set_cons_succ, List.cons_append, List.nil_append])
            refine HeldK.back hle ?_
            refine HeldK.one 16 (fuel := 2) (listed' := (lb 19 131071)) krf rfl krf ?_
            refine AK.appendH 3 rfl sl44 el9 rfl (by decide) rfl rfl rfl (by first | exact rdp | exact .arg (haNi _ (by omega)) | exact .arg (hbNi _ (by omega))) oneP (by omega) (by omega) trivial rfl (fun vb hvb => ?_)
            refine .nil ?_
            try (conv => enter [2, 2]; dsimp only [List.set_cons_zero, List.set_cons_succ, List.cons_append, List.nil_append])
            refine HeldK.back hle ?_
            refine HeldK.first 17 (fuel := 1) (listed' := (lb 19 262143)) _ rfl krf krf rfl (Yl.assign rfl) trivial rfl ?_
            refine HeldK.first 18 (fuel := 0) (listed' := (lb 19 524287)) _ rfl krf krf rfl (Yl.assign rfl) trivial rfl ?_
            refine HeldK.done krf ?_
            exact hJ _ _ ((va, vb)) ⟨hva, hvb⟩ (slr) (fun w hw => by first | exact hw.pickLe [0, 1, 2, 3, 4] (by decide) pkl)
          ·refine AK.lit (xs := [.tmp 105]) sl44 el9 rfl rfl rfl (by intro a ha; simp at ha; subst ha; rfl) (by decide) (by decide) trivial rfl (fun t3 => ?_)
           refine .nil ?_
           try (conv => enter [2, 2]; dsimp only [List.set_cons_zero, List.set_cons_succ, List.cons_append, List.nil_append])
           refine HeldK.back hle ?_
           refine HeldK.one 2 (fuel := 4) (listed' := (lb 19 65527)) krf rfl krf ?_
           refine AK.lit (xs := [.tmp 92]) sl65 el64 rfl rfl rfl (by intro a ha; simp at ha; subst ha; rfl) (by decide) (by decide) trivial rfl (fun t1 => ?_)
           refine .nil ?_
           try (conv => enter [2, 2]; dsimp only [List.set_cons_zero, List.set_cons_succ, List.cons_append, List.nil_append])
           refine HeldK.back hle ?_
           refine HeldK.one 3 (fuel := 3) (listed' := (lb 19 65535)) krf rfl krf ?_
           refine AK.appendH 2 rfl sl65 el64 rfl (by decide) rfl rfl rfl (by first | exact rdp | exact .arg (haNi _ (by omega)) | exact .arg (hbNi _ (by omega))) (by intro u hu; simp [pv, Value.cells] at hu; rcases hu with rfl | rfl <;> rfl) (by omega) (by omega) trivial rfl (fun va hva => ?_)
           refine .nil ?_
           try (conv => enter [2, 2]; dsimp only [List.set_cons_zero, List.set_cons_succ, List.cons_append, List.nil_append])
           refine HeldK.back hle ?_
           refine HeldK.one 16 (fuel := 2) (listed' := (lb 19 131071)) krf rfl krf ?_
           refine AK.appendH 3 rfl sl44 el9 rfl (by decide) rfl rfl rfl (by first | exact rdp | exact .arg (haNi _ (by omega)) | exact .arg (hbNi _ (by omega))) oneP (by omega) (by omega) trivial rfl (fun vb hvb => ?_)
           refine .nil ?_
           try (conv => enter [2, 2]; dsimp only [List.set_cons_zero, List.set_cons_succ, List.cons_append, List.nil_append])
           refine HeldK.back hle ?_
           refine HeldK.first 17 (fuel := 1) (listed' := (lb 19 262143)) _ rfl krf krf rfl (Yl.assign rfl) trivial rfl ?_
           refine HeldK.first 18 (fuel := 0) (listed' := (lb 19 524287)) _ rfl krf krf rfl (Yl.assign rfl) trivial rfl ?_
           refine HeldK.done krf ?_
           exact hJ _ _ ((va, vb)) ⟨hva, hvb⟩ (slr) (fun w hw => by first | exact hw.pickLe [0, 1, 2, 3, 4] (by decide) pkl)
        ·skip
         refine .block_normal ?_
         refine AK.then_ (hK18 _ ?_)
         refine AK.region ?_
         refine .mv rfl ?_
         refine .v (.add rfl rfl (by omega)) ?_
         refine .as rfl (.nil ?_)
         first | refine AK.then_ (hK15 _ _ ((y.1 + 1, zz.1, zz.2)) ⟨by dsimp only; omega, hg⟩ (by dsimp only; omega) (slr) (fun w hw => by dsimp only; rw [show (exR (stepP a b) ((exI (stepP a b) a.L.toNat (a.s, b.s) (0, 0) x.1).getD x.1 (0, 0)) (exI (stepP a b) a.L.toNat (a.s, b.s) (0, 0) x.1) (y.1 + 1)) = (exR (stepP a b) ((exI (stepP a b) a.L.toNat (a.s, b.s) (0, 0) x.1).getD x.1 (0, 0)) (exI (stepP a b) a.L.toNat (a.s, b.s) (0, 0) x.1) y.1) ++ [(stepP a b ((exI (stepP a b) a.L.toNat (a.s, b.s) (0, 0) x.1).getD x.1 (0, 0)) y.1)] from if_neg hni]; rw [show (exRw (stepP a b) ((exI (stepP a b) a.L.toNat (a.s, b.s) (0, 0) x.1).getD x.1 (0, 0)) ((exIw (stepP a b) a.L.toNat (a.s, b.s) (0, 0) x.1).getD x.1 []) (exI (stepP a b) a.L.toNat (a.s, b.s) (0, 0) x.1) (exIw (stepP a b) a.L.toNat (a.s, b.s) (0, 0) x.1) (y.1 + 1)) = (exRw (stepP a b) ((exI (stepP a b) a.L.toNat (a.s, b.s) (0, 0) x.1).getD x.1 (0, 0)) ((exIw (stepP a b) a.L.toNat (a.s, b.s) (0, 0) x.1).getD x.1 []) (exI (stepP a b) a.L.toNat (a.s, b.s) (0, 0) x.1) (exIw (stepP a b) a.L.toNat (a.s, b.s) (0, 0) x.1) y.1) ++ [((exIw (stepP a b) a.L.toNat (a.s, b.s) (0, 0) x.1).getD x.1 []) ++ [ltr y.1]] from if_neg hni]; rw [hgw, metM_new hni] at hw; rw [pcs_append, List.length_append, List.length_append, List.map_append]; exact hw)) | refine AK.then_ (hK15 _ _ ((y.1 + 1, y.2.1, y.2.2)) ⟨by dsimp only; omega, hg1.2⟩ (by dsimp only; omega) (slr) (fun w hw => by dsimp only; rw [show (exR (stepP a b) ((exI (stepP a b) a.L.toNat (a.s, b.s) (0, 0) x.1).getD x.1 (0, 0)) (exI (stepP a b) a.L.toNat (a.s, b.s) (0, 0) x.1) (y.1 + 1)) = (exR (stepP a b) ((exI (stepP a b) a.L.toNat (a.s, b.s) (0, 0) x.1).getD x.1 (0, 0)) (exI (stepP a b) a.L.toNat (a.s, b.s) (0, 0) x.1) y.1) from if_pos hin2]; rw [show (exRw (stepP a b) ((exI (stepP a b) a.L.toNat (a.s, b.s) (0, 0) x.1).getD x.1 (0, 0)) ((exIw (stepP a b) a.L.toNat (a.s, b.s) (0, 0) x.1).getD x.1 []) (exI (stepP a b) a.L.toNat (a.s, b.s) (0, 0) x.1) (exIw (stepP a b) a.L.toNat (a.s, b.s) (0, 0) x.1) (y.1 + 1)) = (exRw (stepP a b) ((exI (stepP a b) a.L.toNat (a.s, b.s) (0, 0) x.1).getD x.1 (0, 0)) ((exIw (stepP a b) a.L.toNat (a.s, b.s) (0, 0) x.1).getD x.1 []) (exI (stepP a b) a.L.toNat (a.s, b.s) (0, 0) x.1) (exIw (stepP a b) a.L.toNat (a.s, b.s) (0, 0) x.1) y.1) from if_pos hin2]; exact hw.pick [0, 1, 2, 3, 4] (by decide) rfl rfl))
       ·have hin2 : (stepP a b ((exI (stepP a b) a.L.toNat (a.s, b.s) (0, 0) x.1).getD x.1 (0, 0)) y.1) ∈ (exR (stepP a b) ((exI (stepP a b) a.L.toNat (a.s, b.s) (0, 0) x.1).getD x.1 (0, 0)) (exI (stepP a b) a.L.toNat (a.s, b.s) (0, 0) x.1) y.1) := of_decide_eq_true hc3
        refine .skip (.block_normal ?_)
        refine AK.then_ (hK18 _ ?_)
        refine AK.region ?_
        refine .mv rfl ?_
        refine .v (.add rfl rfl (by omega)) ?_
        refine .as rfl (.nil ?_)
        first | refine AK.then_ (hK15 _ _ ((y.1 + 1, zz.1, zz.2)) ⟨by dsimp only; omega, hg⟩ (by dsimp only; omega) (slr) (fun w hw => by dsimp only; rw [show (exR (stepP a b) ((exI (stepP a b) a.L.toNat (a.s, b.s) (0, 0) x.1).getD x.1 (0, 0)) (exI (stepP a b) a.L.toNat (a.s, b.s) (0, 0) x.1) (y.1 + 1)) = (exR (stepP a b) ((exI (stepP a b) a.L.toNat (a.s, b.s) (0, 0) x.1).getD x.1 (0, 0)) (exI (stepP a b) a.L.toNat (a.s, b.s) (0, 0) x.1) y.1) ++ [(stepP a b ((exI (stepP a b) a.L.toNat (a.s, b.s) (0, 0) x.1).getD x.1 (0, 0)) y.1)] from if_neg hni]; rw [show (exRw (stepP a b) ((exI (stepP a b) a.L.toNat (a.s, b.s) (0, 0) x.1).getD x.1 (0, 0)) ((exIw (stepP a b) a.L.toNat (a.s, b.s) (0, 0) x.1).getD x.1 []) (exI (stepP a b) a.L.toNat (a.s, b.s) (0, 0) x.1) (exIw (stepP a b) a.L.toNat (a.s, b.s) (0, 0) x.1) (y.1 + 1)) = (exRw (stepP a b) ((exI (stepP a b) a.L.toNat (a.s, b.s) (0, 0) x.1).getD x.1 (0, 0)) ((exIw (stepP a b) a.L.toNat (a.s, b.s) (0, 0) x.1).getD x.1 []) (exI (stepP a b) a.L.toNat (a.s, b.s) (0, 0) x.1) (exIw (stepP a b) a.L.toNat (a.s, b.s) (0, 0) x.1) y.1) ++ [((exIw (stepP a b) a.L.toNat (a.s, b.s) (0, 0) x.1).getD x.1 []) ++ [ltr y.1]] from if_neg hni]; rw [hgw, metM_new hni] at hw; rw [pcs_append, List.length_append, List.length_append, List.map_append]; exact hw)) | refine AK.then_ (hK15 _ _ ((y.1 + 1, y.2.1, y.2.2)) ⟨by dsimp only; omega, hg1.2⟩ (by dsimp only; omega) (slr) (fun w hw => by dsimp only; rw [show (exR (stepP a b) ((exI (stepP a b) a.L.toNat (a.s, b.s) (0, 0) x.1).getD x.1 (0, 0)) (exI (stepP a b) a.L.toNat (a.s, b.s) (0, 0) x.1) (y.1 + 1)) = (exR (stepP a b) ((exI (stepP a b) a.L.toNat (a.s, b.s) (0, 0) x.1).getD x.1 (0, 0)) (exI (stepP a b) a.L.toNat (a.s, b.s) (0, 0) x.1) y.1) from if_pos hin2]; rw [show (exRw (stepP a b) ((exI (stepP a b) a.L.toNat (a.s, b.s) (0, 0) x.1).getD x.1 (0, 0)) ((exIw (stepP a b) a.L.toNat (a.s, b.s) (0, 0) x.1).getD x.1 []) (exI (stepP a b) a.L.toNat (a.s, b.s) (0, 0) x.1) (exIw (stepP a b) a.L.toNat (a.s, b.s) (0, 0) x.1) (y.1 + 1)) = (exRw (stepP a b) ((exI (stepP a b) a.L.toNat (a.s, b.s) (0, 0) x.1).getD x.1 (0, 0)) ((exIw (stepP a b) a.L.toNat (a.s, b.s) (0, 0) x.1).getD x.1 []) (exI (stepP a b) a.L.toNat (a.s, b.s) (0, 0) x.1) (exIw (stepP a b) a.L.toNat (a.s, b.s) (0, 0) x.1) y.1) from if_pos hin2]; exact hw.pick [0, 1, 2, 3, 4] (by decide) rfl rfl))
     ·refine .exit (.then_exit (.then_exit (.block_exit (.block_normal ?_))))
      refine AK.then_ (hK9 _ ?_)
      refine AK.region ?_
      refine .mv rfl ?_
      refine .v (.add rfl rfl (by omega)) ?_
      refine .as rfl (.nil ?_)
      refine AK.then_ (hK6 _ _ ((x.1 + 1, y.2.1, y.2.2)) ⟨by dsimp only; rw [exI_next hlt]; obtain ⟨ys, e⟩ := exR_pre (stepP a b) ((exI (stepP a b) a.L.toNat (a.s, b.s) (0, 0) x.1).getD x.1 (0, 0)) (exI (stepP a b) a.L.toNat (a.s, b.s) (0, 0) x.1) a.L.toNat; rw [e, List.length_append]; omega, hg1.2, src_next hlt hg0.2.2 hwf⟩ (by dsimp only; omega) (slr) (fun w hw => by dsimp only; rw [exI_next hlt, exIw_next hlt]; rw [show y.1 = a.L.toNat by omega] at hw; exact hw))
  ·refine .exit (.then_exit (.then_exit (.block_exit ?_)))
   refine AK.then_ (hK4 _ ?_)
   refine .sr fun _ hK22 => ?_
   refine .as rfl (.as rfl (.nt hK22 (.ret ?_)))
   refine AK.ret2 rfl rfl rfl (fun w hw => ⟨_, _, ?_, rfl, Ret.of (hw.pick [] (by decide) rfl rfl)⟩)
   rw [show (SrcV (stepP a b) a.L.toNat (a.s, b.s) (0, 0) (univ2 a.fin.length b.fin.length).length (finP a b op)) = _ from src_none hst hcl (show x.1 = (exI (stepP a b) a.L.toNat (a.s, b.s) (0, 0) x.1).length by omega) hg0.2.2]
   exact ⟨rfl, rfl⟩

end Go.Proofs.Ytifnofnnjcchhaa
