import Derived.Test.YtifnofnnjcchhaaD2
import Derived.Test.YtifnofnnjcchhaaE7
import Derived.Test.YtifnofnnjcchhaaMP
set_option linter.unusedVariables false
set_option linter.unusedSimpArgs false
namespace Go.Proofs.Ytifnofnnjcchhaa
open Go.Sx Go.RowKit
set_option maxHeartbeats 4000000 in
set_option maxRecDepth 100000 in
theorem s_search (w : World) (u v : Value) (a b : Dfa) (hu : RdD (fun _ => False) w u a) (hv : RdD (fun _ => False) w v b) (ha : VD a) (hb : VD b) (hL : a.L = b.L) (fw : FuncId) (us cs : List Value) (wd : Int × Int → Bool) (hco : CallOk Try.prog fw) (hW : ∀ w', FrameX (fun _ => False) w w' → ∀ p ∈ univ2 a.fin.length b.fin.length, CallS Try.prog fw (us ++ [.int .i64 p.1, .int .i64 p.2] ++ cs) w' (fun r o => r = .bool (wd p) ∧ o = [])) : CallS Try.prog 37 [u, v, .func (.func fw) us.toArray cs.toArray] w (fun r o => r = .tuple #[sv (SrcV (stepP a b) a.L.toNat (a.s, b.s) (0, 0) (univ2 a.fin.length b.fin.length).length wd).1, .bool (SrcV (stepP a b) a.L.toNat (a.s, b.s) (0, 0) (univ2 a.fin.length b.fin.length).length wd).2] ∧ o = []) := by
 have hu0 := hu
 have hv0 := hv
 obtain ⟨aF, aN, rfl, haF, haN⟩ := hu
 obtain ⟨bF, bN, rfl, hbF, hbN⟩ := hv
 have haF0 := haF
 have hbF0 := hbF
 have haN0 := haN
 have hbN0 := hbN
 obtain ⟨ra, hra, haNr, haNi⟩ := haN
 obtain ⟨rb, hrb, hbNr, hbNi⟩ := hbN
 unfold RdL at haF hbF
 have m1 := haF.le
 have m2 := hbF.le
 have haL := ha.L
 have hax := ha.nx
 have hbx := hb.nx
 have ha5 := ha.n
 have hb5 := hb.n
 have has := ha.s
 have hbs := hb.s
 have hnn : (a.fin.length * b.fin.length) ≤ 262144 := Nat.mul_le_mul ha5 hb5
 have hst := start_univ2 ha hb
 have hcl := step_univ2 ha hb hL
 have hok := exI_ok (z := (0, 0)) hst hcl
 have hbd := exI_bd (z := (0, 0)) hst hcl
 rw [univ2_len] at hbd
 have hcp : 0 ≤ a.s * (b.fin.length : Int) ∧ a.s * (b.fin.length : Int) ≤ (((a.fin.length * b.fin.length) : Nat) : Int) ∧ 0 ≤ a.s * (b.fin.length : Int) + b.s ∧ a.s * (b.fin.length : Int) + b.s < (((a.fin.length * b.fin.length) : Nat) : Int) := cd_bd (p := (a.s, b.s)) (m := a.fin.length) (n := b.fin.length) ⟨has, hbs⟩
 refine spec_of Try.func37 rfl (Nat.le_of_ble_eq_true rfl) ?_
 refine .sr fun _ hK1 => ?_
 refine AK.box_ (E := 25) (cs := [.int .i64 a.L, .int .i64 a.s, aF, aN]) rfl rfl rfl trivial rfl (fun bx3 => ?_)
 refine AK.box_ (E := 25) (cs := [.int .i64 b.L, .int .i64 b.s, bF, bN]) rfl rfl rfl trivial rfl (fun bx4 => ?_)
 refine .as rfl (.as rfl (.nt hK1 ?_))
 refine .sr fun _ hK2 => ?_
 refine .v (.fieldAddr fd25_1 rfl) ?_
 refine .v (.loadBox on3 rfl bsp rfl) ?_
 refine .v (.fieldAddr fd25_1 rfl) ?_
 refine .v (.loadBox on3 rfl bsp rfl) ?_
 refine .v (.build (parts := [(0, .tmp 18), (1, .tmp 20), (2, .const (.int .i64 (-1))), (3, .const (.int .i64 0))]) (cs := #[.int .i64 a.s, .int .i64 b.s, .int .i64 (-1), .int .i64 0]) rfl (by kernel_rfl)) ?_
 refine AK.lit (xs := [.tmp 21]) sl83 el82 rfl rfl rfl (by intro a ha; simp at ha; subst ha; rfl) (by decide) (by decide) trivial rfl (fun qv => ?_)
 refine AK.shape 2 rfl (fun sqv => ?_)
 refine .as rfl (.nt hK2 ?_)
 refine .sr fun _ hK3 => ?_
 refine .v (.fieldAddr fd25_2 rfl) ?_
 refine .v (.loadBox on22 rfl bsp rfl) ?_
 refine .v (.lenR sl22 rfl (by first | exact rdp | exact .arg (haNi _ (by omega)) | exact .arg (hbNi _ (by omega)))) ?_
 refine .v (.fieldAddr fd25_2 rfl) ?_
 refine .v (.loadBox on22 rfl bsp rfl) ?_
 refine .v (.lenR sl22 rfl (by first | exact rdp | exact .arg (haNi _ (by omega)) | exact .arg (hbNi _ (by omega)))) ?_
 refine .v (.mulE ((((a.fin.length * b.fin.length) : Nat) : Int)) rfl rfl (Int.natCast_mul _ _).symm (by omega)) ?_
 refine AK.make1 (n := (a.fin.length * b.fin.length)) sl22 el4 rfl rfl rfl (by omega) (by omega) trivial rfl (fun mv => ?_)
 refine .as rfl (.nt hK3 ?_)
 refine .sr fun _ hK4 => ?_
 refine .mv rfl ?_
 refine .v (.fieldAddr fd25_1 rfl) ?_
 refine .v (.loadBox on3 rfl bsp rfl) ?_
 refine .v (.fieldAddr fd25_2 rfl) ?_
 refine .v (.loadBox on22 rfl bsp rfl) ?_
 refine .v (.lenR sl22 rfl (by first | exact rdp | exact .arg (haNi _ (by omega)) | exact .arg (hbNi _ (by omega)))) ?_
 refine .v (.mul rfl rfl (by omega)) ?_
 refine .v (.fieldAddr fd25_1 rfl) ?_
 refine .v (.loadBox on3 rfl bsp rfl) ?_
 refine .v (.add rfl rfl (by omega)) ?_
 first | refine .v (.iN sl22 rfl rfl (hr := (by first | exact rdp | exact .arg (haNi _ (by omega)) | exact .arg (hbNi _ (by omega))))) ?_ | refine .v (.iK sl22 rfl rfl (hr := (by first | exact rdp | exact .arg (haNi _ (by omega)) | exact .arg (hbNi _ (by omega))))) ?_
 refine AK.store1e 3 rfl sz4 rfl rfl rfl rfl (by omega) (cs' := ((metL (a.fin.length * b.fin.length) [cd b.fin.length (a.s, b.s)]).map Value.bool)) (by exact met_first ⟨hcp.2.2.1, hcp.2.2.2⟩) trivial ?_
 refine .nt hK4 ?_
 refine .seq fun _ hK5 => ?_
 refine .sr fun _ hK6 => ?_
 refine .as rfl (.nt hK6 (.block ?_))
 refine AK.loopK (X := Nat × Value) [(2, _), (3, _), (4, _), (9, _)] (fun x => [(8, x.2), (10, .int .i64 (x.1 : Int))]) (fun x => [box bx3 25 4 [.int .i64 a.L, .int .i64 a.s, aF, aN], box bx4 25 4 [.int .i64 b.L, .int .i64 b.s, bF, bN], row x.2 82 4 (exI (stepP a b) a.L.toNat (a.s, b.s) (0, 0) x.1).length (qcs ((exI (stepP a b) a.L.toNat (a.s, b.s) (0, 0) x.1).zip (exIb (stepP a b) a.L.toNat (a.s, b.s) (0, 0) x.1))), row mv 4 1 (a.fin.length * b.fin.length) ((metL (a.fin.length * b.fin.length) ((exI (stepP a b) a.L.toNat (a.s, b.s) (0, 0) x.1).map (cd b.fin.length))).map Value.bool)]) (fun x => x.1 ≤ (exI (stepP a b) a.L.toNat (a.s, b.s) (0, 0) x.1).length ∧ IsSl x.2 ∧ ∀ j, j < x.1 → wd ((exI (stepP a b) a.L.toNat (a.s, b.s) (0, 0) x.1).getD j (0, 0)) = false) (fun x => (a.fin.length * b.fin.length) - x.1) ((0, qv)) slr ?_ ?_ ?_ ?_
 ·exact ⟨Nat.zero_le _, sqv, fun j hj => by cases hj⟩
 ·exact slr
 ·exact fun w hw => hw
 ·intro x hg0 _ hK7
  have hb0 := hbd x.1
  have sx2 := hg0.2.1
  refine .seq fun _ hK8 => ?_
  refine .sr fun _ hK9 => ?_
  refine .mv rfl (.mv rfl ?_)
  refine .v (.lenR sl83 rfl (by first | exact rdp | exact .arg (haNi _ (by omega)) | exact .arg (hbNi _ (by omega)))) ?_
  refine .v (.lss rfl rfl) ?_
  refine .nt hK9 ?_
  refine AK.condD rfl (fun hc0 => ?_) (fun hc0 => ?_)
  ·have hlt : x.1 < (exI (stepP a b) a.L.toNat (a.s, b.s) (0, 0) x.1).length := by omega
   have hql := exIb_len (f := (stepP a b)) (L := a.L.toNat) (s := (a.s, b.s)) (z := (0, 0)) x.1
   have hzl := zipQ_len hql
   have hbk := exIb_bk (f := (stepP a b)) (L := a.L.toNat) (by omega) (s := (a.s, b.s)) (z := (0, 0)) x.1
   have hin := fun y hy => inB_univ2.1 ((hok x.1).2 y hy)
   obtain ⟨⟨hp1, hp2⟩, hp3, hp4⟩ := hin _ (getD_mem (d := (0, 0)) hlt)
   have hwl := exIw_wd (f := (stepP a b)) (L := a.L.toNat) (s := (a.s, b.s)) (z := (0, 0)) x.1 x.1 (by rw [exIw_len]; exact hlt)
   refine .skip ?_
   refine AK.then_ (hK8 _ ?_)
   refine .seq fun _ hK10 => ?_
   refine .block ?_
   refine .sr fun _ hK11 => ?_
   refine .mv rfl (.mv rfl ?_)
   first | refine .v (.iN sl83 rfl rfl (hr := (by first | exact rdp | exact .arg (haNi _ (by omega)) | exact .arg (hbNi _ (by omega))))) ?_ | refine .v (.iK sl83 rfl rfl (hr := (by first | exact rdp | exact .arg (haNi _ (by omega)) | exact .arg (hbNi _ (by omega))))) ?_
   refine AK.val (q4v (((exI (stepP a b) a.L.toNat (a.s, b.s) (0, 0) x.1).getD x.1 (0, 0)), ((exIb (stepP a b) a.L.toNat (a.s, b.s) (0, 0) x.1).getD x.1 (0, 0)))) (Yl.valE (Yl.loadQ ag82 rfl (RdS.own 2 rfl) (by rw [hzl]; omega)) (congrArg q4v (zipQ_get hql (by omega)))) trivial rfl ?_
   refine AK.alloc el82 rfl rfl trivial rfl (fun bx11 => ?_)
   refine AK.storeBox 4 (us := [.int .i64 ((exI (stepP a b) a.L.toNat (a.s, b.s) (0, 0) x.1).getD x.1 (0, 0)).1, .int .i64 ((exI (stepP a b) a.L.toNat (a.s, b.s) (0, 0) x.1).getD x.1 (0, 0)).2, .int .i64 ((exIb (stepP a b) a.L.toNat (a.s, b.s) (0, 0) x.1).getD x.1 (0, 0)).1, .int .i64 ((exIb (stepP a b) a.L.toNat (a.s, b.s) (0, 0) x.1).getD x.1 (0, 0)).2]) (cs' := [.int .i64 ((exI (stepP a b) a.L.toNat (a.s, b.s) (0, 0) x.1).getD x.1 (0, 0)).1, .int .i64 ((exI (stepP a b) a.L.toNat (a.s, b.s) (0, 0) x.1).getD x.1 (0, 0)).2, .int .i64 ((exIb (stepP a b) a.L.toNat (a.s, b.s) (0, 0) x.1).getD x.1 (0, 0)).1, .int .i64 ((exIb (stepP a b) a.L.toNat (a.s, b.s) (0, 0) x.1).getD x.1 (0, 0)).2]) rfl sz82 rfl rfl rfl rfl oneP (Nat.le_of_ble_eq_true rfl) rfl trivial ?_
   refine .nt hK11 ?_
   refine .seq fun _ hK12 => ?_
   refine .sr fun _ hK13 => ?_
   refine .mv rfl ?_
   refine .v (.fieldAddr fd82_0 rfl) ?_
   refine .v (.loadBox on3 rfl bsp rfl) ?_
   refine .v (.fieldAddr fd82_1 rfl) ?_
   refine .v (.loadBox on3 rfl bsp rfl) ?_
   refine AK.callV (us := us) (cs := cs) hco rfl rfl (fun w hw => hW w hw.frame ((exI (stepP a b) a.L.toNat (a.s, b.s) (0, 0) x.1).getD x.1 (0, 0)) ((hok x.1).2 _ (getD_mem (d := (0, 0)) hlt))) trivial rfl ?_
   rintro r o ⟨rfl, rfl⟩
   refine .nt hK13 ?_
   refine AK.cond rfl (fun hc1 => ?_) (fun hc1 => ?_)
   ·try simp only [bs] at hc1
    have hwt : wd ((exI (stepP a b) a.L.toNat (a.s, b.s) (0, 0) x.1).getD x.1 (0, 0)) = true := hc1
    refine .sr fun _ hK14 => ?_
    refine .as rfl (.nt hK14 ?_)
    refine .seq fun _ hK15 => ?_
    refine .block ?_
    refine AK.loopK (X := Nat × List UInt8 × Value) [(8, _), (11, _)] (fun y => [(12, y.2.2)]) (fun y => [box bx3 25 4 [.int .i64 a.L, .int .i64 a.s, aF, aN], box bx4 25 4 [.int .i64 b.L, .int .i64 b.s, bF, bN], row x.2 82 4 (exI (stepP a b) a.L.toNat (a.s, b.s) (0, 0) x.1).length (qcs ((exI (stepP a b) a.L.toNat (a.s, b.s) (0, 0) x.1).zip (exIb (stepP a b) a.L.toNat (a.s, b.s) (0, 0) x.1))), row mv 4 1 (a.fin.length * b.fin.length) ((metL (a.fin.length * b.fin.length) ((exI (stepP a b) a.L.toNat (a.s, b.s) (0, 0) x.1).map (cd b.fin.length))).map Value.bool), box bx11 82 4 [.int .i64 ((exI (stepP a b) a.L.toNat (a.s, b.s) (0, 0) x.1).getD y.1 (0, 0)).1, .int .i64 ((exI (stepP a b) a.L.toNat (a.s, b.s) (0, 0) x.1).getD y.1 (0, 0)).2, .int .i64 ((exIb (stepP a b) a.L.toNat (a.s, b.s) (0, 0) x.1).getD y.1 (0, 0)).1, .int .i64 ((exIb (stepP a b) a.L.toNat (a.s, b.s) (0, 0) x.1).getD y.1 (0, 0)).2], row y.2.2 5 1 y.2.1.length (y.2.1.map byv)]) (fun y => y.1 < (exI (stepP a b) a.L.toNat (a.s, b.s) (0, 0) x.1).length ∧ (exIw (stepP a b) a.L.toNat (a.s, b.s) (0, 0) x.1).getD y.1 [] ++ y.2.1.reverse = (exIw (stepP a b) a.L.toNat (a.s, b.s) (0, 0) x.1).getD x.1 [] ∧ IsSl y.2.2) (fun y => y.1) ((x.1, [], .slice none 0 0)) slr ?_ ?_ ?_ ?_
    ·exact ⟨hlt, by simp, nilSl⟩
    ·exact slr
    ·exact fun w hw => by exact hw.ghost 5 1
    ·intro y hg1 _ hK16
     have hal : y.2.1.length ≤ 2 * (x.1 + 1) * 8 := by
      have h := congrArg List.length hg1.2.1
      rw [List.length_append, List.length_reverse] at h; omega
     have hgy := hg1.1
     refine .seq fun _ hK17 => ?_
     refine .sr fun _ hK18 => ?_
     refine .v (.fieldAddr fd82_2 rfl) ?_
     refine .v (.loadBox on3 rfl bsp rfl) ?_
     refine .v (.geq rfl rfl) ?_
     refine .nt hK18 ?_
     refine AK.condD rfl (fun hc2 => ?_) (fun hc2 => ?_)
     ·have hj0 : 0 < y.1 := by
       rcases Nat.eq_zero_or_pos y.1 with h | h
       ·rw [h, hbk.2.2.1] at hc2; exact absurd hc2 (by decide)
       ·exact h
      obtain ⟨g1, g2, g3, g4, g5, g6⟩ := hbk.2.1 y.1 hj0 (by omega)
      refine .skip ?_
      refine AK.then_ (hK17 _ ?_)
      refine .seq fun _ hK19 => ?_
      refine .block ?_
      refine AK.region ?_
      refine .mv rfl ?_
      refine .v (.fieldAddr fd82_3 rfl) ?_
      refine .v (.loadBox on3 rfl bsp rfl) ?_
      refine .v (.convI (by kernel_rfl) un5 rfl (wrap_u8 (by omega))) ?_
      refine .v (.addU8 rfl rfl (by omega)) ?_
      refine AK.append1 5 rfl sl68 el5 rfl (by decide) rfl (by intro k hk; cases hk; rfl) rfl (by intro u hu; simp [Value.cells] at hu; subst hu; rfl) (by omega) (by omega) (by decide) rfl rfl (fun vr _ hr => ?_)
      refine .as rfl (.nil (.block_normal ?_))
      refine AK.then_ (hK19 _ ?_)
      refine AK.region ?_
      refine .mv rfl ?_
      refine .v (.fieldAddr fd82_2 rfl) ?_
      refine .v (.loadBox on3 rfl bsp rfl) ?_
      first | refine .v (.iN sl83 rfl rfl (hr := (by first | exact rdp | exact .arg (haNi _ (by omega)) | exact .arg (hbNi _ (by omega))))) ?_ | refine .v (.iK sl83 rfl rfl (hr := (by first | exact rdp | exact .arg (haNi _ (by omega)) | exact .arg (hbNi _ (by omega))))) ?_
      refine AK.val (q4v (((exI (stepP a b) a.L.toNat (a.s, b.s) (0, 0) x.1).getD (((exIb (stepP a b) a.L.toNat (a.s, b.s) (0, 0) x.1).getD y.1 (0, 0)).1).toNat (0, 0)), ((exIb (stepP a b) a.L.toNat (a.s, b.s) (0, 0) x.1).getD (((exIb (stepP a b) a.L.toNat (a.s, b.s) (0, 0) x.1).getD y.1 (0, 0)).1).toNat (0, 0)))) (Yl.valE (Yl.loadQ ag82 rfl (RdS.own 2 rfl) (by rw [hzl]; omega)) (congrArg q4v (zipQ_get hql (by omega)))) trivial rfl ?_
      refine AK.storeBox 4 (us := [.int .i64 ((exI (stepP a b) a.L.toNat (a.s, b.s) (0, 0) x.1).getD (((exIb (stepP a b) a.L.toNat (a.s, b.s) (0, 0) x.1).getD y.1 (0, 0)).1).toNat (0, 0)).1, .int .i64 ((exI (stepP a b) a.L.toNat (a.s, b.s) (0, 0) x.1).getD (((exIb (stepP a b) a.L.toNat (a.s, b.s) (0, 0) x.1).getD y.1 (0, 0)).1).toNat (0, 0)).2, .int .i64 ((exIb (stepP a b) a.L.toNat (a.s, b.s) (0, 0) x.1).getD (((exIb (stepP a b) a.L.toNat (a.s, b.s) (0, 0) x.1).getD y.1 (0, 0)).1).toNat (0, 0)).1, .int .i64 ((exIb (stepP a b) a.L.toNat (a.s, b.s) (0, 0) x.1).getD (((exIb (stepP a b) a.L.toNat (a.s, b.s) (0, 0) x.1).getD y.1 (0, 0)).1).toNat (0, 0)).2]) (cs' := [.int .i64 ((exI (stepP a b) a.L.toNat (a.s, b.s) (0, 0) x.1).getD (((exIb (stepP a b) a.L.toNat (a.s, b.s) (0, 0) x.1).getD y.1 (0, 0)).1).toNat (0, 0)).1, .int .i64 ((exI (stepP a b) a.L.toNat (a.s, b.s) (0, 0) x.1).getD (((exIb (stepP a b) a.L.toNat (a.s, b.s) (0, 0) x.1).getD y.1 (0, 0)).1).toNat (0, 0)).2, .int .i64 ((exIb (stepP a b) a.L.toNat (a.s, b.s) (0, 0) x.1).getD (((exIb (stepP a b) a.L.toNat (a.s, b.s) (0, 0) x.1).getD y.1 (0, 0)).1).toNat (0, 0)).1, .int .i64 ((exIb (stepP a b) a.L.toNat (a.s, b.s) (0, 0) x.1).getD (((exIb (stepP a b) a.L.toNat (a.s, b.s) (0, 0) x.1).getD y.1 (0, 0)).1).toNat (0, 0)).2]) rfl sz82 rfl rfl rfl rfl oneP (Nat.le_of_ble_eq_true rfl) rfl trivial ?_
      refine .nil ?_
      refine AK.then_ (hK16 _ _ (((((exIb (stepP a b) a.L.toNat (a.s, b.s) (0, 0) x.1).getD y.1 (0, 0)).1).toNat, y.2.1 ++ [ltr (((exIb (stepP a b) a.L.toNat (a.s, b.s) (0, 0) x.1).getD y.1 (0, 0)).2).toNat], vr)) ⟨by dsimp only; omega, by dsimp only; rw [List.reverse_append, List.reverse_singleton, ← List.append_assoc, ← g6]; exact hg1.2.1, hr⟩ (by dsimp only; omega) (slr) (fun w hw => by dsimp only; rw [List.length_append, List.map_append, List.map_cons, List.map_nil, ← byv_ltr (by omega), Int.toNat_of_nonneg g4]; exact hw))
     ·have hj0 : y.1 = 0 := by
       rcases Nat.eq_zero_or_pos y.1 with h | h
       ·exact h
       ·have := hbk.2.1 y.1 h (by omega)
        omega
      have hw0 : y.2.1.reverse = (exIw (stepP a b) a.L.toNat (a.s, b.s) (0, 0) x.1).getD x.1 [] := by
       have h := hg1.2.1
       rw [hj0, hbk.2.2.2.1] at h; simpa using h
      refine .exit (.then_exit (.then_exit (.block_exit ?_)))
      refine AK.then_ (hK15 _ ?_)
      refine .sr fun _ hK20 => ?_
      refine .mv rfl ?_
      refine .v (.bytesS sl68.1 un5 un9 rfl (by first | exact rdp | exact .arg (haNi _ (by omega)) | exact .arg (hbNi _ (by omega)))) ?_
      refine AK.call co58 rfl (fun w hw => s_reverse w y.2.1 (by omega)) trivial rfl ?_
      rintro r o ⟨rfl, rfl⟩
      refine .as rfl (.as rfl (.nt hK20 (.ret (.then_ret (.block_ret (.then_ret (.then_ret (.block_ret (.then_ret ?_)))))))))
      refine AK.ret2 rfl rfl rfl (fun w hw => ⟨_, _, ?_, rfl, Ret.of (hw.pick [] (by decide) rfl rfl)⟩)
      rw [show (SrcV (stepP a b) a.L.toNat (a.s, b.s) (0, 0) (univ2 a.fin.length b.fin.length).length wd) = _ from src_some hst hcl hlt hg0.2.2 hwt, hw0]
      exact ⟨rfl, rfl⟩
   ·try simp only [bs] at hc1
    have hwf : wd ((exI (stepP a b) a.L.toNat (a.s, b.s) (0, 0) x.1).getD x.1 (0, 0)) = false := hc1
    have hrw1 := ha.row ((exI (stepP a b) a.L.toNat (a.s, b.s) (0, 0) x.1).getD x.1 (0, 0)).1.toNat (by omega)
    have hrw2 := hb.row ((exI (stepP a b) a.L.toNat (a.s, b.s) (0, 0) x.1).getD x.1 (0, 0)).2.toNat (by omega)
    refine .skip ?_
    refine AK.then_ (hK12 _ ?_)
    refine .sr fun _ hK21 => ?_
    refine .v (.fieldAddr fd25_0 rfl) ?_
    refine .v (.loadBox on3 rfl bsp rfl) ?_
    refine .mv rfl (.nt hK21 (.block ?_))
    refine AK.loopK (X := Nat × Value) [(2, _), (3, _), (4, _), (9, _), (10, _), (11, _), (77, _)] (fun y => [(8, y.2), (78, .int .i64 (y.1 : Int))]) (fun y => [box bx3 25 4 [.int .i64 a.L, .int .i64 a.s, aF, aN], box bx4 25 4 [.int .i64 b.L, .int .i64 b.s, bF, bN], row y.2 82 4 (exR (stepP a b) ((exI (stepP a b) a.L.toNat (a.s, b.s) (0, 0) x.1).getD x.1 (0, 0)) (exI (stepP a b) a.L.toNat (a.s, b.s) (0, 0) x.1) y.1).length (qcs ((exR (stepP a b) ((exI (stepP a b) a.L.toNat (a.s, b.s) (0, 0) x.1).getD x.1 (0, 0)) (exI (stepP a b) a.L.toNat (a.s, b.s) (0, 0) x.1) y.1).zip (exRb (stepP a b) ((exI (stepP a b) a.L.toNat (a.s, b.s) (0, 0) x.1).getD x.1 (0, 0)) x.1 (exI (stepP a b) a.L.toNat (a.s, b.s) (0, 0) x.1) (exIb (stepP a b) a.L.toNat (a.s, b.s) (0, 0) x.1) y.1))), row mv 4 1 (a.fin.length * b.fin.length) ((metL (a.fin.length * b.fin.length) ((exR (stepP a b) ((exI (stepP a b) a.L.toNat (a.s, b.s) (0, 0) x.1).getD x.1 (0, 0)) (exI (stepP a b) a.L.toNat (a.s, b.s) (0, 0) x.1) y.1).map (cd b.fin.length))).map Value.bool), box bx11 82 4 [.int .i64 ((exI (stepP a b) a.L.toNat (a.s, b.s) (0, 0) x.1).getD x.1 (0, 0)).1, .int .i64 ((exI (stepP a b) a.L.toNat (a.s, b.s) (0, 0) x.1).getD x.1 (0, 0)).2, .int .i64 ((exIb (stepP a b) a.L.toNat (a.s, b.s) (0, 0) x.1).getD x.1 (0, 0)).1, .int .i64 ((exIb (stepP a b) a.L.toNat (a.s, b.s) (0, 0) x.1).getD x.1 (0, 0)).2]]) (fun y => (y.1 : Int) ≤ a.L ∧ IsSl y.2) (fun y => a.L.toNat - y.1) ((0, x.2)) slr ?_ ?_ ?_ ?_
    ·exact ⟨by dsimp only; omega, sx2⟩
    ·exact slr
    ·exact fun w hw => hw
    ·intro y hg2 _ hK22
     have sy2 := hg2.2
     refine .sr fun _ hK23 => ?_
     refine .v (.lss rfl rfl) ?_
     refine .nt hK23 ?_
     refine .seq fun _ hK24 => ?_
     refine AK.condD rfl (fun hc3 => ?_) (fun hc3 => ?_)
     ·have hyL : y.1 < a.L.toNat := by omega
      have hNU : (stepP a b ((exI (stepP a b) a.L.toNat (a.s, b.s) (0, 0) x.1).getD x.1 (0, 0)) y.1) ∈ univ2 a.fin.length b.fin.length := hcl _ ((hok x.1).2 _ (getD_mem (d := (0, 0)) hlt)) y.1 hyL
      have hNB := inB_univ2.1 hNU
      have hcb : 0 ≤ ((a.nx.getD ((exI (stepP a b) a.L.toNat (a.s, b.s) (0, 0) x.1).getD x.1 (0, 0)).1.toNat []).getD y.1 0) * (b.fin.length : Int) ∧ ((a.nx.getD ((exI (stepP a b) a.L.toNat (a.s, b.s) (0, 0) x.1).getD x.1 (0, 0)).1.toNat []).getD y.1 0) * (b.fin.length : Int) ≤ (((a.fin.length * b.fin.length) : Nat) : Int) ∧ 0 ≤ ((a.nx.getD ((exI (stepP a b) a.L.toNat (a.s, b.s) (0, 0) x.1).getD x.1 (0, 0)).1.toNat []).getD y.1 0) * (b.fin.length : Int) + ((b.nx.getD ((exI (stepP a b) a.L.toNat (a.s, b.s) (0, 0) x.1).getD x.1 (0, 0)).2.toNat []).getD y.1 0) ∧ ((a.nx.getD ((exI (stepP a b) a.L.toNat (a.s, b.s) (0, 0) x.1).getD x.1 (0, 0)).1.toNat []).getD y.1 0) * (b.fin.length : Int) + ((b.nx.getD ((exI (stepP a b) a.L.toNat (a.s, b.s) (0, 0) x.1).getD x.1 (0, 0)).2.toNat []).getD y.1 0) < (((a.fin.length * b.fin.length) : Nat) : Int) := cd_bd hNB
      have hRin : ∀ u ∈ (exR (stepP a b) ((exI (stepP a b) a.L.toNat (a.s, b.s) (0, 0) x.1).getD x.1 (0, 0)) (exI (stepP a b) a.L.toNat (a.s, b.s) (0, 0) x.1) y.1), InB a.fin.length b.fin.length u := fun u hu => inB_univ2.1 (exR_sub (fun u hu => (hok x.1).2 u hu) (fun k hk => hcl _ ((hok x.1).2 _ (getD_mem (d := (0, 0)) hlt)) k hk) y.1 (by omega) u hu)
      have hmg : (metL (a.fin.length * b.fin.length) ((exR (stepP a b) ((exI (stepP a b) a.L.toNat (a.s, b.s) (0, 0) x.1).getD x.1 (0, 0)) (exI (stepP a b) a.L.toNat (a.s, b.s) (0, 0) x.1) y.1).map (cd b.fin.length))).getD (((a.nx.getD ((exI (stepP a b) a.L.toNat (a.s, b.s) (0, 0) x.1).getD x.1 (0, 0)).1.toNat []).getD y.1 0) * (b.fin.length : Int) + ((b.nx.getD ((exI (stepP a b) a.L.toNat (a.s, b.s) (0, 0) x.1).getD x.1 (0, 0)).2.toNat []).getD y.1 0)).toNat false = decide ((stepP a b ((exI (stepP a b) a.L.toNat (a.s, b.s) (0, 0) x.1).getD x.1 (0, 0)) y.1) ∈ (exR (stepP a b) ((exI (stepP a b) a.L.toNat (a.s, b.s) (0, 0) x.1).getD x.1 (0, 0)) (exI (stepP a b) a.L.toNat (a.s, b.s) (0, 0) x.1) y.1)) := (metL_get ⟨hcb.2.2.1, hcb.2.2.2⟩).trans (decide_eq_decide.2 (cd_mem hRin hNB))
      have hrl := exR_bd (z := (0, 0)) hst hcl hlt (k := y.1) (by omega)
      rw [univ2_len] at hrl
      have hbl := exRb_len (f := (stepP a b)) (q := ((exI (stepP a b) a.L.toNat (a.s, b.s) (0, 0) x.1).getD x.1 (0, 0))) (i := x.1) hql y.1
      have hml := metL_len (a.fin.length * b.fin.length) ((exR (stepP a b) ((exI (stepP a b) a.L.toNat (a.s, b.s) (0, 0) x.1).getD x.1 (0, 0)) (exI (stepP a b) a.L.toNat (a.s, b.s) (0, 0) x.1) y.1).map (cd b.fin.length))
      refine .skip ?_
      refine AK.then_ (hK24 _ ?_)
      refine .seq fun _ hK25 => ?_
      refine .block ?_
      refine .sr fun _ hK26 => ?_
      refine .mv rfl (.as rfl (.nt hK26 ?_))
      refine .seq fun _ hK27 => ?_
      refine AK.quiet mixed krf ?_
      refine .v (.fieldAddr fd25_3 rfl) ?_
      refine .v (.loadBox on23 rfl bsp rfl) ?_
      refine .v (.fieldAddr fd82_0 rfl) ?_
      refine .v (.loadBox on3 rfl bsp rfl) ?_
      first | refine .v (.iN sl23 rfl rfl (hr := (by first | exact rdp | exact .arg (haNi _ (by omega)) | exact .arg (hbNi _ (by omega))))) ?_ | refine .v (.iK sl23 rfl rfl (hr := (by first | exact rdp | exact .arg (haNi _ (by omega)) | exact .arg (hbNi _ (by omega))))) ?_
      refine .v (.loadV on26 rfl (by first | exact rdp | exact .arg (haNi _ (by omega)) | exact .arg (hbNi _ (by omega))) (by omega)) ?_
      refine .mv rfl ?_
      first | refine .v (.iN sl26 rfl rfl (hr := (by first | exact rdp | exact .arg (haNi _ (by omega)) | exact .arg (hbNi _ (by omega))))) ?_ | refine .v (.iK sl26 rfl rfl (hr := (by first | exact rdp | exact .arg (haNi _ (by omega)) | exact .arg (hbNi _ (by omega))))) ?_
      refine .v (.loadI on3 rfl (by first | exact rdp | exact .arg (haNi _ (by omega)) | exact .arg (hbNi _ (by omega))) (by omega)) ?_
      refine .v (.fieldAddr fd25_3 rfl) ?_
      refine .v (.loadBox on23 rfl bsp rfl) ?_
      refine .v (.fieldAddr fd82_1 rfl) ?_
      refine .v (.loadBox on3 rfl bsp rfl) ?_
      first | refine .v (.iN sl23 rfl rfl (hr := (by first | exact rdp | exact .arg (haNi _ (by omega)) | exact .arg (hbNi _ (by omega))))) ?_ | refine .v (.iK sl23 rfl rfl (hr := (by first | exact rdp | exact .arg (haNi _ (by omega)) | exact .arg (hbNi _ (by omega))))) ?_
      refine .v (.loadV on26 rfl (by first | exact rdp | exact .arg (haNi _ (by omega)) | exact .arg (hbNi _ (by omega))) (by omega)) ?_
      refine .mv rfl ?_
      first | refine .v (.iN sl26 rfl rfl (hr := (by first | exact rdp | exact .arg (haNi _ (by omega)) | exact .arg (hbNi _ (by omega))))) ?_ | refine .v (.iK sl26 rfl rfl (hr := (by first | exact rdp | exact .arg (haNi _ (by omega)) | exact .arg (hbNi _ (by omega))))) ?_
      refine .v (.loadI on3 rfl (by first | exact rdp | exact .arg (haNi _ (by omega)) | exact .arg (hbNi _ (by omega))) (by omega)) ?_
      refine .as rfl (.as rfl ?_)
      refine QK.nil (QK.fin ?_)
      refine AK.then_ (hK27 _ ?_)
      refine .sr fun _ hK28 => ?_
      refine .mv rfl ?_
      refine .v (.fieldAddr fd25_2 rfl) ?_
      refine .v (.loadBox on22 rfl bsp rfl) ?_
      refine .v (.lenR sl22 rfl (by first | exact rdp | exact .arg (haNi _ (by omega)) | exact .arg (hbNi _ (by omega)))) ?_
      refine .v (.mul rfl rfl (by omega)) ?_
      refine .mv rfl ?_
      refine .v (.add rfl rfl (by omega)) ?_
      refine .as rfl (.nt hK28 ?_)
      refine .sr fun _ hK29 => ?_
      refine .mv rfl (.mv rfl ?_)
      first | refine .v (.iN sl22 rfl rfl (hr := (by first | exact rdp | exact .arg (haNi _ (by omega)) | exact .arg (hbNi _ (by omega))))) ?_ | refine .v (.iK sl22 rfl rfl (hr := (by first | exact rdp | exact .arg (haNi _ (by omega)) | exact .arg (hbNi _ (by omega))))) ?_
      refine .v (.loadB on4 rfl (by first | exact rdp | exact .arg (haNi _ (by omega)) | exact .arg (hbNi _ (by omega))) (by omega)) ?_
      refine .v (.not rfl) ?_
      refine .nt hK29 ?_
      refine AK.condB rfl (fun hc4 => ?_) (fun hc4 => ?_)
      ·have hni : (stepP a b ((exI (stepP a b) a.L.toNat (a.s, b.s) (0, 0) x.1).getD x.1 (0, 0)) y.1) ∉ (exR (stepP a b) ((exI (stepP a b) a.L.toNat (a.s, b.s) (0, 0) x.1).getD x.1 (0, 0)) (exI (stepP a b) a.L.toNat (a.s, b.s) (0, 0) x.1) y.1) := by rw [hmg] at hc4; exact of_decide_eq_false hc4
       refine .sr fun _ hK30 => ?_
       refine .mv rfl (.mv rfl ?_)
       first | refine .v (.iN sl22 rfl rfl (hr := (by first | exact rdp | exact .arg (haNi _ (by omega)) | exact .arg (hbNi _ (by omega))))) ?_ | refine .v (.iK sl22 rfl rfl (hr := (by first | exact rdp | exact .arg (haNi _ (by omega)) | exact .arg (hbNi _ (by omega))))) ?_
       refine AK.store1e 3 rfl sz4 rfl rfl rfl rfl (by omega) (cs' := ((metL (a.fin.length * b.fin.length) (((exR (stepP a b) ((exI (stepP a b) a.L.toNat (a.s, b.s) (0, 0) x.1).getD x.1 (0, 0)) (exI (stepP a b) a.L.toNat (a.s, b.s) (0, 0) x.1) y.1) ++ [(stepP a b ((exI (stepP a b) a.L.toNat (a.s, b.s) (0, 0) x.1).getD x.1 (0, 0)) y.1)]).map (cd b.fin.length))).map Value.bool)) (by rw [List.map_append]; exact met_next ⟨hcb.2.2.1, hcb.2.2.2⟩) trivial ?_
       refine .nt hK30 ?_
       refine AK.region ?_
       refine .mv rfl (.mv rfl (.mv rfl (.mv rfl (.mv rfl ?_))))
       refine .v (.build (parts := [(0, .tmp 115), (1, .tmp 116), (2, .tmp 117), (3, .tmp 118)]) (cs := #[.int .i64 ((a.nx.getD ((exI (stepP a b) a.L.toNat (a.s, b.s) (0, 0) x.1).getD x.1 (0, 0)).1.toNat []).getD y.1 0), .int .i64 ((b.nx.getD ((exI (stepP a b) a.L.toNat (a.s, b.s) (0, 0) x.1).getD x.1 (0, 0)).2.toNat []).getD y.1 0), .int .i64 (x.1 : Int), .int .i64 (y.1 : Int)]) rfl (by kernel_rfl)) ?_
       refine AK.append1 2 rfl sl83 el82 rfl (by decide) rfl (by intro k hk; cases hk; rfl) rfl (by intro u hu; simp [Value.cells] at hu; rcases hu with rfl | rfl | rfl | rfl <;> rfl) (by omega) (by omega) (by decide) rfl rfl (fun va _ ha2 => ?_)
       refine .as rfl (.nil (.block_normal ?_))
       refine AK.then_ (hK25 _ ?_)
       refine AK.region ?_
       refine .v (.add rfl rfl (by omega)) ?_
       refine .mv rfl (.nil ?_)
       first | refine AK.then_ (hK22 _ _ ((y.1 + 1, va)) ⟨by dsimp only; omega, ha2⟩ (by dsimp only; omega) (slr) (fun w hw => by dsimp only; rw [show (exR (stepP a b) ((exI (stepP a b) a.L.toNat (a.s, b.s) (0, 0) x.1).getD x.1 (0, 0)) (exI (stepP a b) a.L.toNat (a.s, b.s) (0, 0) x.1) (y.1 + 1)) = (exR (stepP a b) ((exI (stepP a b) a.L.toNat (a.s, b.s) (0, 0) x.1).getD x.1 (0, 0)) (exI (stepP a b) a.L.toNat (a.s, b.s) (0, 0) x.1) y.1) ++ [(stepP a b ((exI (stepP a b) a.L.toNat (a.s, b.s) (0, 0) x.1).getD x.1 (0, 0)) y.1)] from if_neg hni, show (exRb (stepP a b) ((exI (stepP a b) a.L.toNat (a.s, b.s) (0, 0) x.1).getD x.1 (0, 0)) x.1 (exI (stepP a b) a.L.toNat (a.s, b.s) (0, 0) x.1) (exIb (stepP a b) a.L.toNat (a.s, b.s) (0, 0) x.1) (y.1 + 1)) = (exRb (stepP a b) ((exI (stepP a b) a.L.toNat (a.s, b.s) (0, 0) x.1).getD x.1 (0, 0)) x.1 (exI (stepP a b) a.L.toNat (a.s, b.s) (0, 0) x.1) (exIb (stepP a b) a.L.toNat (a.s, b.s) (0, 0) x.1) y.1) ++ [((x.1 : Int), (y.1 : Int))] from if_neg hni, zipQ_snoc hbl, qcs_snoc, List.length_append]; exact hw)) | refine AK.then_ (hK22 _ _ ((y.1 + 1, y.2)) ⟨by dsimp only; omega, sy2⟩ (by dsimp only; omega) (slr) (fun w hw => by dsimp only; rw [show (exR (stepP a b) ((exI (stepP a b) a.L.toNat (a.s, b.s) (0, 0) x.1).getD x.1 (0, 0)) (exI (stepP a b) a.L.toNat (a.s, b.s) (0, 0) x.1) (y.1 + 1)) = (exR (stepP a b) ((exI (stepP a b) a.L.toNat (a.s, b.s) (0, 0) x.1).getD x.1 (0, 0)) (exI (stepP a b) a.L.toNat (a.s, b.s) (0, 0) x.1) y.1) from if_pos hin2, show (exRb (stepP a b) ((exI (stepP a b) a.L.toNat (a.s, b.s) (0, 0) x.1).getD x.1 (0, 0)) x.1 (exI (stepP a b) a.L.toNat (a.s, b.s) (0, 0) x.1) (exIb (stepP a b) a.L.toNat (a.s, b.s) (0, 0) x.1) (y.1 + 1)) = (exRb (stepP a b) ((exI (stepP a b) a.L.toNat (a.s, b.s) (0, 0) x.1).getD x.1 (0, 0)) x.1 (exI (stepP a b) a.L.toNat (a.s, b.s) (0, 0) x.1) (exIb (stepP a b) a.L.toNat (a.s, b.s) (0, 0) x.1) y.1) from if_pos hin2]; exact hw))
      ·have hin2 : (stepP a b ((exI (stepP a b) a.L.toNat (a.s, b.s) (0, 0) x.1).getD x.1 (0, 0)) y.1) ∈ (exR (stepP a b) ((exI (stepP a b) a.L.toNat (a.s, b.s) (0, 0) x.1).getD x.1 (0, 0)) (exI (stepP a b) a.L.toNat (a.s, b.s) (0, 0) x.1) y.1) := by rw [hmg] at hc4; exact of_decide_eq_true hc4
       refine .skip (.block_normal ?_)
       refine AK.then_ (hK25 _ ?_)
       refine AK.region ?_
       refine .v (.add rfl rfl (by omega)) ?_
       refine .mv rfl (.nil ?_)
       first | refine AK.then_ (hK22 _ _ ((y.1 + 1, va)) ⟨by dsimp only; omega, ha2⟩ (by dsimp only; omega) (slr) (fun w hw => by dsimp only; rw [show (exR (stepP a b) ((exI (stepP a b) a.L.toNat (a.s, b.s) (0, 0) x.1).getD x.1 (0, 0)) (exI (stepP a b) a.L.toNat (a.s, b.s) (0, 0) x.1) (y.1 + 1)) = (exR (stepP a b) ((exI (stepP a b) a.L.toNat (a.s, b.s) (0, 0) x.1).getD x.1 (0, 0)) (exI (stepP a b) a.L.toNat (a.s, b.s) (0, 0) x.1) y.1) ++ [(stepP a b ((exI (stepP a b) a.L.toNat (a.s, b.s) (0, 0) x.1).getD x.1 (0, 0)) y.1)] from if_neg hni, show (exRb (stepP a b) ((exI (stepP a b) a.L.toNat (a.s, b.s) (0, 0) x.1).getD x.1 (0, 0)) x.1 (exI (stepP a b) a.L.toNat (a.s, b.s) (0, 0) x.1) (exIb (stepP a b) a.L.toNat (a.s, b.s) (0, 0) x.1) (y.1 + 1)) = (exRb (stepP a b) ((exI (stepP a b) a.L.toNat (a.s, b.s) (0, 0) x.1).getD x.1 (0, 0)) x.1 (exI (stepP a b) a.L.toNat (a.s, b.s) (0, 0) x.1) (exIb (stepP a b) a.L.toNat (a.s, b.s) (0, 0) x.1) y.1) ++ [((x.1 : Int), (y.1 : Int))] from if_neg hni, zipQ_snoc hbl, qcs_snoc, List.length_append]; exact hw)) | refine AK.then_ (hK22 _ _ ((y.1 + 1, y.2)) ⟨by dsimp only; omega, sy2⟩ (by dsimp only; omega) (slr) (fun w hw => by dsimp only; rw [show (exR (stepP a b) ((exI (stepP a b) a.L.toNat (a.s, b.s) (0, 0) x.1).getD x.1 (0, 0)) (exI (stepP a b) a.L.toNat (a.s, b.s) (0, 0) x.1) (y.1 + 1)) = (exR (stepP a b) ((exI (stepP a b) a.L.toNat (a.s, b.s) (0, 0) x.1).getD x.1 (0, 0)) (exI (stepP a b) a.L.toNat (a.s, b.s) (0, 0) x.1) y.1) from if_pos hin2, show (exRb (stepP a b) ((exI (stepP a b) a.L.toNat (a.s, b.s) (0, 0) x.1).getD x.1 (0, 0)) x.1 (exI (stepP a b) a.L.toNat (a.s, b.s) (0, 0) x.1) (exIb (stepP a b) a.L.toNat (a.s, b.s) (0, 0) x.1) (y.1 + 1)) = (exRb (stepP a b) ((exI (stepP a b) a.L.toNat (a.s, b.s) (0, 0) x.1).getD x.1 (0, 0)) x.1 (exI (stepP a b) a.L.toNat (a.s, b.s) (0, 0) x.1) (exIb (stepP a b) a.L.toNat (a.s, b.s) (0, 0) x.1) y.1) from if_pos hin2]; exact hw))
     ·refine .exit (.then_exit (.then_exit (.block_exit (.block_normal ?_))))
      refine AK.then_ (hK10 _ ?_)
      refine AK.region ?_
      refine .mv rfl ?_
      refine .v (.add rfl rfl (by omega)) ?_
      refine .as rfl (.nil ?_)
      refine AK.then_ (hK7 _ _ ((x.1 + 1, y.2)) ⟨by dsimp only; rw [exI_next hlt]; obtain ⟨ys, e⟩ := exR_pre (stepP a b) ((exI (stepP a b) a.L.toNat (a.s, b.s) (0, 0) x.1).getD x.1 (0, 0)) (exI (stepP a b) a.L.toNat (a.s, b.s) (0, 0) x.1) a.L.toNat; rw [e, List.length_append]; omega, hg2.2, src_next hlt hg0.2.2 hwf⟩ (by dsimp only; omega) (slr) (fun w hw => by dsimp only; rw [exI_next hlt, exIb_next hlt]; rw [show y.1 = a.L.toNat by omega] at hw; exact hw.pick [0, 1, 2, 3] (by decide) rfl rfl))
  ·refine .exit (.then_exit (.then_exit (.block_exit ?_)))
   refine AK.then_ (hK5 _ ?_)
   refine .sr fun _ hK31 => ?_
   refine .as rfl (.as rfl (.nt hK31 (.ret ?_)))
   refine AK.ret2 rfl rfl rfl (fun w hw => ⟨_, _, ?_, rfl, Ret.of (hw.pick [] (by decide) rfl rfl)⟩)
   rw [show (SrcV (stepP a b) a.L.toNat (a.s, b.s) (0, 0) (univ2 a.fin.length b.fin.length).length wd) = _ from src_none hst hcl (show x.1 = (exI (stepP a b) a.L.toNat (a.s, b.s) (0, 0) x.1).length by omega) hg0.2.2]
   exact ⟨rfl, rfl⟩

end Go.Proofs.Ytifnofnnjcchhaa
