import Derived.Test.YtifnofnnjcchhaaD2
import Derived.Test.YtifnofnnjcchhaaQ1
import Derived.Test.YtifnofnnjcchhaaBP
set_option linter.unusedVariables false
set_option linter.unusedSimpArgs false
namespace Go.Proofs.Ytifnofnnjcchhaa
open Go.Sx Go.RowKit Go.Sx.Pt
theorem on79 : OneT Try.prog 79 := by unfold OneT; kernel_rfl
theorem ur_snoc (m : Nat) (qs : List (Int × Int)) (p : Int × Int) : UR m (qs ++ [p]) = ufstep (UR m qs) p.1.toNat ((m : Int) + p.2).toNat := by unfold UR; rw [List.map_append]; exact ufs_snoc _ _
set_option maxRecDepth 100000 in
theorem s_root (w : World) (F : Nat → Prop) (b6 : Nat) (pv : Value) (f : List Int) (ρ : Nat → Nat) (n : Nat) (i : Int) (hA : (bigA [box b6 26 1 [pv], row pv 3 1 n (f.map (Value.int .i64))]).holds w F) (hr : Rep ρ f n) (hi : 0 ≤ i ∧ i < n) (hn : n ≤ 4096) : CallM Try.prog 55 [.int .i64 i, .pointer (some ⟨b6, 0, none⟩)] w F (fun r A o => ∃ f', Rep ρ f' n ∧ AtR ρ f f' n ∧ r = .int .i64 ((ρ i.toNat : Nat) : Int) ∧ A = bigA [box b6 26 1 [pv], row pv 3 1 n (f'.map (Value.int .i64))] ∧ o = []) := by
 refine specM_of' Try.func55 rfl (Nat.le_of_ble_eq_true rfl) hA ?_
 refine .sr fun _ hK1 => ?_
 refine .as rfl (.nt hK1 ?_)
 refine .seq fun _ hK2 => ?_
 refine .block ?_
 refine AK.loopK (X := Nat × List Int) [(1, _)] (fun x => [(0, .int .i64 (x.1 : Int))]) (fun x => [box b6 26 1 [pv], row pv 3 1 n (x.2.map (Value.int .i64))]) (fun x => Rep ρ x.2 n ∧ x.1 < n ∧ ρ x.1 = ρ i.toNat ∧ AtR ρ f x.2 n) (fun x => x.1) ((i.toNat, f)) slr ?_ ?_ ?_ ?_
 ·exact ⟨hr, by dsimp only; omega, rfl, fun j _ h => h⟩
 ·exact .cons (slI rfl (by dsimp only; omega)) (slr)
 ·exact fun w hw => hw
 ·intro x hg0 _ hK3
  obtain ⟨hr1, hi1, hp, hat⟩ := hg0
  have hl := hr1.1
  obtain ⟨a1, a2, a3, a4, a5⟩ := hr1.2 x.1 hi1
  have b := hr1.2 (x.2.getD x.1 0).toNat (by omega)
  refine .seq fun _ hK4 => ?_
  refine .sr fun _ hK5 => ?_
  refine .v (.loadBox on26 rfl bsp rfl) ?_
  refine .mv rfl ?_
  first | refine .v (.iN sl26 rfl rfl) ?_ | refine .v (.iK sl26 rfl rfl) ?_
  refine .v (.loadI on3 rfl rdp (by omega)) ?_
  refine .mv rfl ?_
  refine .v (.neq rfl rfl) ?_
  refine .nt hK5 ?_
  refine AK.condNe rfl (fun hc0 => ?_) (fun hc0 => ?_)
  ·refine .skip ?_
   refine AK.then_ (hK4 _ ?_)
   refine .block ?_
   refine .seq fun _ hK6 => ?_
   refine AK.stillTail 10 mixed krf (fun _ hws => ?_)
   refine .v hws (.loadBox on26 rfl bsp rfl) ?_
   refine .v hws (.move rfl) ?_
   refine .v hws (.loadBox on26 rfl bsp rfl) ?_
   refine .v hws (.loadBox on26 rfl bsp rfl) ?_
   refine .v hws (.move rfl) ?_
   first | refine .v hws (.iN sl26 rfl rfl) ?_ | refine .v hws (.iK sl26 rfl rfl) ?_
   refine .v hws (.loadI on3 rfl rdp (by omega)) ?_
   first | refine .v hws (.iN sl26 rfl rfl) ?_ | refine .v hws (.iK sl26 rfl rfl) ?_
   refine .v hws (.loadI on3 rfl rdp (by omega)) ?_
   first | refine .v hws (.iN sl26 rfl rfl) ?_ | refine .v hws (.iK sl26 rfl rfl) ?_
   refine SK.nil (SK.fin hws ?_)
   refine AK.store1e 1 rfl sz3 rfl rfl rfl rfl (by omega) (cs' := ((x.2.set x.1 (x.2.getD (x.2.getD x.1 0).toNat 0)).map (Value.int .i64))) (by rw [List.map_set]) trivial ?_
   refine .nt hK6 ?_
   refine AK.region ?_
   refine .v (.loadBox on26 rfl bsp rfl) ?_
   refine .mv rfl ?_
   first | refine .v (.iN sl26 rfl rfl) ?_ | refine .v (.iK sl26 rfl rfl) ?_
   refine .v (.loadI on3 rfl rdp (by rw [List.length_set]; omega)) ?_
   refine .as rfl (.nil (.block_normal ?_))
   refine AK.then_ (hK3 _ _ (((x.2.getD (x.2.getD x.1 0).toNat 0).toNat, x.2.set x.1 (x.2.getD (x.2.getD x.1 0).toNat 0))) ⟨hr1.halve hi1 hc0, by dsimp only; omega, by show ρ _ = _; rw [b.2.2.1, a3, hp], hat.halve hr1 hi1⟩ (by dsimp only; omega) (.cons (slI rfl (by rw [Pt.getD_set_same (by omega)]; dsimp only; omega)) (slr)) (fun w hw => hw))
  ·refine .exit (.then_exit (.then_exit (.block_exit ?_)))
   refine AK.then_ (hK2 _ ?_)
   refine .sr fun _ hK7 => ?_
   refine .mv rfl (.as rfl (.nt hK7 (.ret ?_)))
   refine AK.ret1 rfl rfl (fun w hw => ⟨_, _, _, ?_, rfl, Ret.ofBig0 (hw.pick [0, 1] (by decide) rfl rfl)⟩)
   exact ⟨x.2, hr1, hat, by rw [← hp, a4.1 hc0], rfl, rfl⟩

set_option maxHeartbeats 600000 in
set_option maxRecDepth 100000 in
theorem s_meet (w : World) (F : Nat → Prop) (b2 b3 b6 b7 b8 b9 : Nat) (pv qv aF aN bF bN : Value) (f : List Int) (a b : Dfa) (st : USt) (p q : Int) (hA : (bigA [box b6 26 1 [pv], row pv 3 1 (a.fin.length + b.fin.length) (f.map (Value.int .i64)), box b8 65 1 [qv], row qv 64 2 st.1.length (pcs st.1), box b9 4 1 [.bool st.2]]).holds w F) (h2 : BxA w b2 [.int .i64 a.L, .int .i64 a.s, aF, aN]) (n2 : ¬ F b2) (h3 : BxA w b3 [.int .i64 b.L, .int .i64 b.s, bF, bN]) (n3 : ¬ F b3) (h7 : BxA w b7 [.func (.func 55) #[] #[.pointer (some ⟨b6, 0, none⟩)]]) (n7 : ¬ F b7) (haF : RdL F Value.bool w aF a.fin) (hbF : RdL F Value.bool w bF b.fin) (hr : Rep (UR a.fin.length st.1) f (a.fin.length + b.fin.length)) (hp : InR a p) (hq : InR b q) (ha : VD a) (hb : VD b) (hls : st.1.length ≤ 262144) (sq : IsSl qv) : CallM Try.prog 56 [.int .i64 p, .int .i64 q, .pointer (some ⟨b7, 0, none⟩), .pointer (some ⟨b2, 0, none⟩), .pointer (some ⟨b6, 0, none⟩), .pointer (some ⟨b8, 0, none⟩), .pointer (some ⟨b9, 0, none⟩), .pointer (some ⟨b3, 0, none⟩)] w F (fun r A o => ∃ f' qv', IsSl qv' ∧ Rep (UR a.fin.length (meetS a b st (p, q)).1) f' (a.fin.length + b.fin.length) ∧ A = bigA [box b6 26 1 [pv], row pv 3 1 (a.fin.length + b.fin.length) (f'.map (Value.int .i64)), box b8 65 1 [qv'], row qv' 64 2 (meetS a b st (p, q)).1.length (pcs (meetS a b st (p, q)).1), box b9 4 1 [.bool (meetS a b st (p, q)).2]] ∧ r = .tuple #[] ∧ o = []) := by
 unfold RdL at haF hbF
 have hp1 := hp.1
 have hp2 := hp.2
 have hq1 := hq.1
 have hq2 := hq.2
 have hna := ha.n
 have hnb := hb.n
 have hri : (UR a.fin.length st.1) p.toNat < (a.fin.length + b.fin.length) := by have := (hr.2 p.toNat (by omega)).2.2.2.2; omega
 have hrj : (UR a.fin.length st.1) ((a.fin.length : Int) + q).toNat < (a.fin.length + b.fin.length) := by have := (hr.2 ((a.fin.length : Int) + q).toNat (by omega)).2.2.2.2; omega
 refine specM_of' Try.func56 rfl (Nat.le_of_ble_eq_true rfl) hA ?_
 refine .seq fun _ hK1 => ?_
 try (conv => enter [2, 2]; dsimp only [List.set_cons_zero, List.set_cons_succ, List.cons_append, List.nil_append])
 refine AK.heldS _ 12 (fun _ hw => hw.pick [] (by decide) rfl rfl) mixed ?_
 refine HeldK.firstS (fun _ hw => hw.pick [] (by decide) rfl rfl) 0 (fuel := 11) (listed' := (lb 12 1)) _ rfl krf krf rfl (Yl.loadBox on79 rfl bsp rfl) trivial rfl ?_
 refine HeldK.firstS (fun _ hw => hw.pick [] (by decide) rfl rfl) 1 (fuel := 10) (listed' := (lb 12 3)) _ rfl krf krf rfl (Yl.move rfl) trivial rfl ?_
 refine HeldK.firstS (fun _ hw => hw.pick [] (by decide) rfl rfl) 3 (fuel := 9) (listed' := (lb 12 11)) _ rfl krf krf rfl (Yl.loadBox on79 rfl bsp rfl) trivial rfl ?_
 refine HeldK.firstS (fun _ hw => hw.pick [] (by decide) rfl rfl) 4 (fuel := 8) (listed' := (lb 12 27)) _ rfl krf krf rfl (Yl.fieldAddr fd25_2 rfl) trivial rfl ?_
 refine HeldK.firstS (fun _ hw => hw.pick [] (by decide) rfl rfl) 5 (fuel := 7) (listed' := (lb 12 59)) _ rfl krf krf rfl (Yl.loadBox on22 rfl bsp rfl) trivial rfl ?_
 refine HeldK.firstS (fun _ hw => hw.pick [] (by decide) rfl rfl) 6 (fuel := 6) (listed' := (lb 12 123)) _ rfl krf krf rfl (Yl.lenR sl22 rfl rdp) trivial rfl ?_
 refine HeldK.firstS (fun _ hw => hw.pick [] (by decide) rfl rfl) 7 (fuel := 5) (listed' := (lb 12 251)) _ rfl krf krf rfl (Yl.move rfl) trivial rfl ?_
 refine HeldK.firstS (fun _ hw => hw.pick [] (by decide) rfl rfl) 8 (fuel := 4) (listed' := (lb 12 507)) _ rfl krf krf rfl (Yl.add rfl rfl (by omega)) trivial rfl ?_
 refine HeldK.one 2 (fuel := 3) (listed' := (lb 12 511)) krf rfl krf ?_
 refine AK.own' [bigA [box b6 26 1 [pv], row pv 3 1 (a.fin.length + b.fin.length) (f.map (Value.int .i64))], box b8 65 1 [qv], row qv 64 2 st.1.length (pcs st.1), box b9 4 1 [.bool st.2]] (fun w hw => HW.unflat (l := [_, _]) (own := [_, _, _]) hw) ?_
 refine AK.callVN 0 rfl (us := []) (cs := [.pointer (some ⟨b6, 0, none⟩)]) co55 rfl rfl (fun w Fs hw hh hfr hal => s_root w (Fs 0) b6 pv f (UR a.fin.length st.1) (a.fin.length + b.fin.length) p (hh.at_ 0 _ rfl) hr (by omega) (by omega)) trivial rfl ?_
 rintro r A o ⟨f1, hr1, _, rfl, rfl, rfl⟩
 refine AK.flat0 rfl ?_
 refine .nil ?_
 try (conv => enter [2, 2]; dsimp only [List.set_cons_zero, List.set_cons_succ, List.cons_append, List.nil_append])
 refine HeldK.backS (fun _ hw => hw.pick [] (by decide) rfl rfl) ?_
 refine HeldK.one 9 (fuel := 2) (listed' := (lb 12 1023)) krf rfl krf ?_
 refine AK.own' [bigA [box b6 26 1 [pv], row pv 3 1 (a.fin.length + b.fin.length) (f1.map (Value.int .i64))], box b8 65 1 [qv], row qv 64 2 st.1.length (pcs st.1), box b9 4 1 [.bool st.2]] (fun w hw => HW.unflat (l := [_, _]) (own := [_, _, _]) hw) ?_
 refine AK.callVN 0 rfl (us := []) (cs := [.pointer (some ⟨b6, 0, none⟩)]) co55 rfl rfl (fun w Fs hw hh hfr hal => s_root w (Fs 0) b6 pv f1 (UR a.fin.length st.1) (a.fin.length + b.fin.length) ((a.fin.length : Int) + q) (hh.at_ 0 _ rfl) hr1 (by omega) (by omega)) trivial rfl ?_
 rintro r A o ⟨f2, hr2, _, rfl, rfl, rfl⟩
 refine AK.flat0 rfl ?_
 refine .nil ?_
 try (conv => enter [2, 2]; dsimp only [List.set_cons_zero, List.set_cons_succ, List.cons_append, List.nil_append])
 refine HeldK.backS (fun _ hw => hw.pick [] (by decide) rfl rfl) ?_
 refine HeldK.firstS (fun _ hw => hw.pick [] (by decide) rfl rfl) 10 (fuel := 1) (listed' := (lb 12 2047)) _ rfl krf krf rfl (Yl.assign rfl) trivial rfl ?_
 refine HeldK.firstS (fun _ hw => hw.pick [] (by decide) rfl rfl) 11 (fuel := 0) (listed' := (lb 12 4095)) _ rfl krf krf rfl (Yl.assign rfl) trivial rfl ?_
 refine HeldK.done krf ?_
 refine AK.then_ (hK1 _ ?_)
 refine .sr fun _ hK2 => ?_
 refine .mv rfl (.mv rfl ?_)
 refine .v (.neq rfl rfl) ?_
 refine .nt hK2 ?_
 refine AK.condNe rfl (fun hc0 => ?_) (fun hc0 => ?_)
 ·refine .sr fun _ hK3 => ?_
  refine .v (.loadBox on26 rfl bsp rfl) ?_
  refine .mv rfl (.mv rfl ?_)
  refine .v (.max rfl rfl) ?_
  refine .mv rfl (.mv rfl ?_)
  refine .v (.min rfl rfl) ?_
  first | refine .v (.iN sl26 rfl rfl) ?_ | refine .v (.iK sl26 rfl rfl) ?_
  refine AK.store1e 1 rfl sz3 rfl rfl rfl rfl (by omega) (cs' := ((f2.set (max ((UR a.fin.length st.1) p.toNat) ((UR a.fin.length st.1) ((a.fin.length : Int) + q).toNat)) (((min ((UR a.fin.length st.1) p.toNat) ((UR a.fin.length st.1) ((a.fin.length : Int) + q).toNat)) : Nat) : Int)).map (Value.int .i64))) (by rw [List.map_set, show (max (((UR a.fin.length st.1) p.toNat : Nat) : Int) (((UR a.fin.length st.1) ((a.fin.length : Int) + q).toNat : Nat) : Int)).toNat = (max ((UR a.fin.length st.1) p.toNat) ((UR a.fin.length st.1) ((a.fin.length : Int) + q).toNat)) from by omega, show min (((UR a.fin.length st.1) p.toNat : Nat) : Int) (((UR a.fin.length st.1) ((a.fin.length : Int) + q).toNat : Nat) : Int) = (((min ((UR a.fin.length st.1) p.toNat) ((UR a.fin.length st.1) ((a.fin.length : Int) + q).toNat)) : Nat) : Int) from by omega]) trivial ?_
  refine .nt hK3 ?_
  refine .sr fun _ hK4 => ?_
  refine .v (.loadBox on65 rfl bsp rfl) ?_
  refine .mv rfl (.mv rfl ?_)
  refine .v (.build (parts := [(0, .tmp 34), (1, .tmp 35)]) (cs := #[.int .i64 p, .int .i64 q]) rfl (by kernel_rfl)) ?_
  refine AK.append1 3 rfl sl65 el64 rfl (by decide) rfl (by intro k hk; cases hk; rfl) rfl (by intro u hu; simp [Value.cells] at hu; rcases hu with rfl | rfl <;> rfl) (by omega) (by omega) (by decide) rfl rfl (fun av _ hav => ?_)
  refine AK.storeBox 2 (us := [av]) (cs' := [av]) rfl sz65 rfl rfl (by rw [IsSl.cells (by assumption)]) rfl oneP (Nat.le_of_ble_eq_true rfl) rfl trivial ?_
  refine .nt hK4 ?_
  refine AK.stillTail 14 mixed krf (fun _ hws => ?_)
  refine .v hws (.loadBox on4 rfl bsp rfl) ?_
  refine .v hws (.move rfl) ?_
  refine SK.splitB (g := 40) rfl (fun hg_4_1 => ?_) (fun hg_4_1 => ?_)
  ·have hg_4_1' := hg_4_1
   try simp only [bs] at hg_4_1'
   refine SK.val hws _ (Yl.fieldAddr fd25_2 rfl) ⟨_, rfl, congrArg (fun b => some (Value.bool b)) hg_4_1⟩ rfl ?_
   refine SK.val hws _ (Yl.loadBox on22 rfl bsp rfl) ⟨_, rfl, congrArg (fun b => some (Value.bool b)) hg_4_1⟩ rfl ?_
   refine SK.val hws _ (Yl.move rfl) ⟨_, rfl, congrArg (fun b => some (Value.bool b)) hg_4_1⟩ rfl ?_
   first | refine SK.val hws _ (.iN sl22 rfl rfl) ⟨_, rfl, congrArg (fun b => some (Value.bool b)) hg_4_1⟩ rfl ?_ | refine SK.val hws _ (.iK sl22 rfl rfl) ⟨_, rfl, congrArg (fun b => some (Value.bool b)) hg_4_1⟩ rfl ?_
   refine SK.val hws _ (Yl.loadB on4 rfl rdp (by omega)) ⟨_, rfl, congrArg (fun b => some (Value.bool b)) hg_4_1⟩ rfl ?_
   refine SK.val hws _ (Yl.fieldAddr fd25_2 rfl) ⟨_, rfl, congrArg (fun b => some (Value.bool b)) hg_4_1⟩ rfl ?_
   refine SK.val hws _ (Yl.loadBox on22 rfl bsp rfl) ⟨_, rfl, congrArg (fun b => some (Value.bool b)) hg_4_1⟩ rfl ?_
   refine SK.val hws _ (Yl.move rfl) ⟨_, rfl, congrArg (fun b => some (Value.bool b)) hg_4_1⟩ rfl ?_
   first | refine SK.val hws _ (.iN sl22 rfl rfl) ⟨_, rfl, congrArg (fun b => some (Value.bool b)) hg_4_1⟩ rfl ?_ | refine SK.val hws _ (.iK sl22 rfl rfl) ⟨_, rfl, congrArg (fun b => some (Value.bool b)) hg_4_1⟩ rfl ?_
   refine SK.val hws _ (Yl.loadB on4 rfl rdp (by omega)) ⟨_, rfl, congrArg (fun b => some (Value.bool b)) hg_4_1⟩ rfl ?_
   refine SK.val hws _ (Yl.eqlB bo4 rfl rfl) ⟨_, rfl, congrArg (fun b => some (Value.bool b)) hg_4_1⟩ rfl ?_
   refine .v hws (.pickT rfl (hg_4_1) rfl) ?_
   refine SK.nil (SK.fin hws ?_)
   first | refine AK.storeBox 4 (us := [.bool (a.fin.getD p.toNat false == b.fin.getD q.toNat false)]) (cs' := [.bool (a.fin.getD p.toNat false == b.fin.getD q.toNat false)]) rfl sz4 rfl rfl rfl rfl oneP (Nat.le_of_ble_eq_true rfl) rfl trivial ?_ | refine AK.storeBox 4 (us := [.bool false]) (cs' := [.bool false]) rfl sz4 rfl rfl rfl rfl oneP (Nat.le_of_ble_eq_true rfl) rfl trivial ?_
   refine .nil ?_
   refine AK.endG [] rfl (.nil) (fun w hw => ⟨_, _, _, ?_, rfl, Ret.ofBig0 hw⟩)
   have em : (meetS a b st (p, q)) = (st.1 ++ [(p, q)], st.2 && (finQ a p == finQ b q)) := if_neg (fun e => hc0 (congrArg (fun (n : Nat) => (n : Int)) e))
   rw [em]
   refine ⟨_, av, hav, by rw [ur_snoc]; exact hr2.union (by omega) (by omega), ?_, rfl, rfl⟩
   rw [pcs_append, List.length_append, hg_4_1]
   rfl
  ·have hg_4_1' := hg_4_1
   try simp only [bs] at hg_4_1'
   refine SK.pass rfl rfl (hg_4_1) rfl ?_
   refine SK.pass rfl rfl (hg_4_1) rfl ?_
   refine SK.pass rfl rfl (hg_4_1) rfl ?_
   refine SK.pass rfl rfl (hg_4_1) rfl ?_
   refine SK.pass rfl rfl (hg_4_1) rfl ?_
   refine SK.pass rfl rfl (hg_4_1) rfl ?_
   refine SK.pass rfl rfl (hg_4_1) rfl ?_
   refine SK.pass rfl rfl (hg_4_1) rfl ?_
   refine SK.pass rfl rfl (hg_4_1) rfl ?_
   refine SK.pass rfl rfl (hg_4_1) rfl ?_
   refine SK.pass rfl rfl (hg_4_1) rfl ?_
   refine .v hws (.pickF rfl (hg_4_1) rfl) ?_
   refine SK.nil (SK.fin hws ?_)
   first | refine AK.storeBox 4 (us := [.bool (a.fin.getD p.toNat false == b.fin.getD q.toNat false)]) (cs' := [.bool (a.fin.getD p.toNat false == b.fin.getD q.toNat false)]) rfl sz4 rfl rfl rfl rfl oneP (Nat.le_of_ble_eq_true rfl) rfl trivial ?_ | refine AK.storeBox 4 (us := [.bool false]) (cs' := [.bool false]) rfl sz4 rfl rfl rfl rfl oneP (Nat.le_of_ble_eq_true rfl) rfl trivial ?_
   refine .nil ?_
   refine AK.endG [] rfl (.nil) (fun w hw => ⟨_, _, _, ?_, rfl, Ret.ofBig0 hw⟩)
   have em : (meetS a b st (p, q)) = (st.1 ++ [(p, q)], st.2 && (finQ a p == finQ b q)) := if_neg (fun e => hc0 (congrArg (fun (n : Nat) => (n : Int)) e))
   rw [em]
   refine ⟨_, av, hav, by rw [ur_snoc]; exact hr2.union (by omega) (by omega), ?_, rfl, rfl⟩
   rw [pcs_append, List.length_append, hg_4_1]
   rfl
 ·refine .skip ?_
  refine AK.endG [] rfl (.nil) (fun w hw => ⟨_, _, _, ?_, rfl, Ret.ofBig0 hw⟩)
  have em : (meetS a b st (p, q)) = st := if_pos (by dsimp only; omega)
  rw [em]
  exact ⟨f2, qv, sq, hr2, rfl, rfl, rfl⟩

set_option maxHeartbeats 2000000 in
set_option maxRecDepth 100000 in
theorem s_unite (w : World) (u v : Value) (a b : Dfa) (hu : RdD (fun _ => False) w u a) (hv : RdD (fun _ => False) w v b) (ha : VD a) (hb : VD b) (hL : a.L = b.L) : CallS Try.prog 36 [u, v] w (fun r o => ∃ cv lst sm, r = .tuple #[cv, .bool sm] ∧ IsSl cv ∧ o = [row cv 3 1 lst.length (lst.map (Value.int .i64))] ∧ (sm = true → Lng a b ∧ lst = leastL a b) ∧ (sm = false → ¬ Lng a b ∧ lst = [])) := by
 have hu0 := hu
 have hv0 := hv
 obtain ⟨aF, aN, rfl, haF, haN⟩ := hu
 obtain ⟨bF, bN, rfl, hbF, hbN⟩ := hv
 have haF0 := haF
 have hbF0 := hbF
 have haN0 := haN
 have hbN0 := hbN
 obtain ⟨ra, hra, haNr, haNi⟩ := haN
 obtain ⟨rb, hrb, hbNr, hbNi⟩ := hbN
 unfold RdL at haF hbF
 have m1 := haF.le
 have m2 := hbF.le
 have hna := ha.n
 have hnb := hb.n
 have has := ha.s
 have hbs := hb.s
 have haL := ha.L
 have hax := ha.nx
 have hbx := hb.nx
 obtain ⟨em0, hin0⟩ := UInv.init ha hb
 have hmb : a.fin.length * b.fin.length ≤ 262144 := Nat.mul_le_mul hna hnb
 refine spec_of Try.func36 rfl (Nat.le_of_ble_eq_true rfl) ?_
 refine .sr fun _ hK1 => ?_
 refine AK.box_ (E := 25) (cs := [.int .i64 a.L, .int .i64 a.s, aF, aN]) rfl rfl rfl trivial rfl (fun bx2 => ?_)
 refine AK.box_ (E := 25) (cs := [.int .i64 b.L, .int .i64 b.s, bF, bN]) rfl rfl rfl trivial rfl (fun bx3 => ?_)
 refine .as rfl (.as rfl (.nt hK1 ?_))
 refine .sr fun _ hK2 => ?_
 refine .v (.fieldAddr fd25_2 rfl) ?_
 refine .v (.loadBox on22 rfl bsp rfl) ?_
 refine .v (.lenR sl22 rfl (by first | exact rdp | exact .arg (haNi _ (by omega)) | exact .arg (hbNi _ (by omega)))) ?_
 refine .v (.fieldAddr fd25_2 rfl) ?_
 refine .v (.loadBox on22 rfl bsp rfl) ?_
 refine .v (.lenR sl22 rfl (by first | exact rdp | exact .arg (haNi _ (by omega)) | exact .arg (hbNi _ (by omega)))) ?_
 refine .v (.add rfl rfl (by omega)) ?_
 refine AK.call co54 rfl (fun w hw => q_disc w ((a.fin.length : Int) + b.fin.length)) trivial rfl ?_
 rintro dv o rfl
 have edl : discB ((a.fin.length : Int) + b.fin.length) = idl (a.fin.length + b.fin.length) := by unfold discB; rw [if_pos (by omega)]; congr 1
 rw [edl, idl_length]
 refine AK.shape 2 rfl (fun sdv => ?_)
 refine AK.alloc el26 rfl rfl trivial rfl (fun bx6 => ?_)
 refine AK.storeBox 3 (us := [dv]) (cs' := [dv]) rfl sz26 rfl rfl (by rw [IsSl.cells (by assumption)]) rfl oneP (Nat.le_of_ble_eq_true rfl) rfl trivial ?_
 refine .nt hK2 ?_
 refine .sr fun _ hK3 => ?_
 refine .v (.makeFunc (first := []) (captured := [.tmp 6]) rfl rfl) ?_
 refine AK.alloc el79 rfl rfl trivial rfl (fun bx7 => ?_)
 refine AK.storeBox 4 (us := [.func (.func 55) #[] #[.pointer (some ⟨bx6, 0, none⟩)]]) (cs' := [.func (.func 55) #[] #[.pointer (some ⟨bx6, 0, none⟩)]]) rfl sz79 rfl rfl rfl rfl oneP (Nat.le_of_ble_eq_true rfl) rfl trivial ?_
 refine .nt hK3 ?_
 refine .sr fun _ hK4 => ?_
 refine AK.alloc el65 rfl rfl trivial rfl (fun bx8 => ?_)
 refine .nt hK4 ?_
 refine .sr fun _ hK5 => ?_
 refine AK.alloc el4 rfl rfl trivial rfl (fun bx9 => ?_)
 refine AK.storeBox 6 (us := [.bool true]) (cs' := [.bool true]) rfl sz4 rfl rfl rfl rfl oneP (Nat.le_of_ble_eq_true rfl) rfl trivial ?_
 refine .nt hK5 ?_
 refine .sr fun _ hK6 => ?_
 refine .v (.makeFunc (first := []) (captured := [.tmp 7, .tmp 2, .tmp 6, .tmp 8, .tmp 9, .tmp 3]) rfl rfl) ?_
 refine .as rfl (.nt hK6 ?_)
 refine .sr fun _ hK7 => ?_
 refine .mv rfl ?_
 refine .v (.fieldAddr fd25_1 rfl) ?_
 refine .v (.loadBox on3 rfl bsp rfl) ?_
 refine .v (.fieldAddr fd25_1 rfl) ?_
 refine .v (.loadBox on3 rfl bsp rfl) ?_
 refine AK.own' [bigA [box bx6 26 1 [dv], row dv 3 1 (a.fin.length + b.fin.length) ((idl (a.fin.length + b.fin.length)).map (Value.int .i64)), box bx8 65 1 [(.slice none 0 0)], row (.slice none 0 0) 64 2 0 [], box bx9 4 1 [.bool true]], box bx2 25 4 [.int .i64 a.L, .int .i64 a.s, aF, aN], box bx3 25 4 [.int .i64 b.L, .int .i64 b.s, bF, bN], box bx7 79 1 [.func (.func 55) #[] #[.pointer (some ⟨bx6, 0, none⟩)]]] (fun w hw => HW.unflat (l := [_, _, _, _, _]) (own := [_, _, _]) ((hw.ghost 64 2).pick [3, 2, 5, 7, 6, 0, 1, 4] (by decide) rfl rfl)) ?_
 refine AK.callVN 0 rfl (us := []) (cs := [.pointer (some ⟨bx7, 0, none⟩), .pointer (some ⟨bx2, 0, none⟩), .pointer (some ⟨bx6, 0, none⟩), .pointer (some ⟨bx8, 0, none⟩), .pointer (some ⟨bx9, 0, none⟩), .pointer (some ⟨bx3, 0, none⟩)]) co56 rfl rfl (fun w Fs hw hh hfr hal => s_meet w (Fs 0) bx2 bx3 bx6 bx7 bx8 bx9 dv (.slice none 0 0) aF aN bF bN (idl (a.fin.length + b.fin.length)) a b (([] : List (Int × Int)), true) a.s b.s (hh.at_ 0 _ rfl) (BxA.own 1 hw rfl) (hh.boxN 1 rfl (by decide)) (BxA.own 2 hw rfl) (hh.boxN 2 rfl (by decide)) (BxA.own 3 hw rfl) (hh.boxN 3 rfl (by decide)) (haF0.off hfr hal) (hbF0.off hfr hal) (rep_id _) has hbs ha hb (Nat.zero_le _) nilSl) trivial rfl ?_
 rintro r A o ⟨f1, qv1, sq1, hr1, rfl, rfl, rfl⟩
 refine AK.flat0 rfl ?_
 refine .nt hK7 ?_
 refine .seq fun _ hK8 => ?_
 refine .sr fun _ hK9 => ?_
 refine .as rfl (.nt hK9 (.block ?_))
 refine AK.loopK (X := Nat × USt × List Int × Value) [(2, _), (3, _), (6, _), (7, _), (8, _), (9, _), (10, _)] (fun x => [(11, .int .i64 (x.1 : Int))]) (fun x => [box bx6 26 1 [dv], row dv 3 1 (a.fin.length + b.fin.length) (x.2.2.1.map (Value.int .i64)), box bx8 65 1 [x.2.2.2], row x.2.2.2 64 2 x.2.1.1.length (pcs x.2.1.1), box bx9 4 1 [.bool x.2.1.2], box bx2 25 4 [.int .i64 a.L, .int .i64 a.s, aF, aN], box bx3 25 4 [.int .i64 b.L, .int .i64 b.s, bF, bN], box bx7 79 1 [.func (.func 55) #[] #[.pointer (some ⟨bx6, 0, none⟩)]]]) (fun x => x.1 ≤ x.2.1.1.length ∧ UInv a b x.1 0 x.2.1 ∧ Rep (UR a.fin.length x.2.1.1) x.2.2.1 (a.fin.length + b.fin.length) ∧ IsSl x.2.2.2) (fun x => a.fin.length * b.fin.length - x.1) ((0, (meetS a b (([] : List (Int × Int)), true) (a.s, b.s)), f1, qv1)) slr ?_ ?_ ?_ ?_
 ·exact ⟨Nat.zero_le _, hin0, hr1, sq1⟩
 ·exact slr
 ·exact fun w hw => hw
 ·intro x hg0 _ hK10
  have hxl := hg0.2.1.len ha hb hL
  have hxr := hg0.2.2.1.1
  refine .seq fun _ hK11 => ?_
  refine .sr fun _ hK12 => ?_
  refine .mv rfl ?_
  refine .v (.loadBox on65 rfl bsp rfl) ?_
  refine .v (.lenR sl65 rfl (by first | exact rdp | exact .arg (haNi _ (by omega)) | exact .arg (hbNi _ (by omega)))) ?_
  refine .v (.lss rfl rfl) ?_
  refine .mv rfl ?_
  refine AK.splitB (g := 36) rfl (fun hg_8_4 => ?_) (fun hg_8_4 => ?_)
  ·have hg_8_4' := hg_8_4
   try simp only [bs] at hg_8_4'
   refine AK.val _ (Yl.loadBox on4 rfl bsp rfl) ⟨_, rfl, congrArg (fun b => some (Value.bool b)) hg_8_4⟩ rfl ?_
   refine .v (.pickT rfl (hg_8_4) rfl) ?_
   refine .nt hK12 ?_
   refine AK.cond rfl (fun hc0 => ?_) (fun hc0 => ?_)
   ·try simp only [bs] at hc0
    have hlt : x.1 < x.2.1.1.length := by omega
    obtain ⟨⟨hp1, hp2⟩, hp3, hp4⟩ := hg0.2.1.bd ha hb hL (getD_mem (d := (0, 0)) hlt)
    refine .skip ?_
    refine AK.then_ (hK11 _ ?_)
    refine .seq fun _ hK13 => ?_
    refine .block ?_
    refine .seq fun _ hK14 => ?_
    refine AK.quiet mixed krf ?_
    refine .v (.loadBox on65 rfl bsp rfl) ?_
    refine .mv rfl ?_
    first | refine .v (.iN sl65 rfl rfl (hr := (by first | exact rdp | exact .arg (haNi _ (by omega)) | exact .arg (hbNi _ (by omega))))) ?_ | refine .v (.iK sl65 rfl rfl (hr := (by first | exact rdp | exact .arg (haNi _ (by omega)) | exact .arg (hbNi _ (by omega))))) ?_
    refine .v (.idxArrA 0 ar64 rfl rfl (by decide)) ?_
    refine QK.val (.int .i64 (x.2.1.1.getD x.1 (0, 0)).1) (Yl.loadPart (sz := 2) on3 rfl (RdS.own 3 rfl) (pcs_part hlt).1) trivial rfl ?_
    refine .v (.loadBox on65 rfl bsp rfl) ?_
    refine .mv rfl ?_
    first | refine .v (.iN sl65 rfl rfl (hr := (by first | exact rdp | exact .arg (haNi _ (by omega)) | exact .arg (hbNi _ (by omega))))) ?_ | refine .v (.iK sl65 rfl rfl (hr := (by first | exact rdp | exact .arg (haNi _ (by omega)) | exact .arg (hbNi _ (by omega))))) ?_
    refine .v (.idxArrA 1 ar64 rfl rfl (by decide)) ?_
    refine QK.val (.int .i64 (x.2.1.1.getD x.1 (0, 0)).2) (Yl.loadPart (sz := 2) on3 rfl (RdS.own 3 rfl) (pcs_part hlt).2) trivial rfl ?_
    refine .as rfl (.as rfl ?_)
    refine QK.nil (QK.fin ?_)
    refine AK.then_ (hK14 _ ?_)
    refine .sr fun _ hK15 => ?_
    refine .v (.fieldAddr fd25_0 rfl) ?_
    refine .v (.loadBox on3 rfl bsp rfl) ?_
    refine .mv rfl (.nt hK15 (.block ?_))
    refine AK.loopK (X := Nat × USt × List Int × Value) [(2, _), (3, _), (6, _), (7, _), (8, _), (9, _), (10, _), (11, _), (12, _), (13, _), (52, _)] (fun y => [(53, .int .i64 (y.1 : Int))]) (fun y => [box bx6 26 1 [dv], row dv 3 1 (a.fin.length + b.fin.length) (y.2.2.1.map (Value.int .i64)), box bx8 65 1 [y.2.2.2], row y.2.2.2 64 2 y.2.1.1.length (pcs y.2.1.1), box bx9 4 1 [.bool y.2.1.2], box bx2 25 4 [.int .i64 a.L, .int .i64 a.s, aF, aN], box bx3 25 4 [.int .i64 b.L, .int .i64 b.s, bF, bN], box bx7 79 1 [.func (.func 55) #[] #[.pointer (some ⟨bx6, 0, none⟩)]]]) (fun y => (y.1 : Int) ≤ a.L ∧ UInv a b x.1 y.1 y.2.1 ∧ Rep (UR a.fin.length y.2.1.1) y.2.2.1 (a.fin.length + b.fin.length) ∧ IsSl y.2.2.2 ∧ x.1 < y.2.1.1.length ∧ y.2.1.1.getD x.1 (0, 0) = (x.2.1.1.getD x.1 (0, 0))) (fun y => a.L.toNat - y.1) ((0, x.2)) slr ?_ ?_ ?_ ?_
    ·exact ⟨by dsimp only; omega, hg0.2.1, hg0.2.2.1, hg0.2.2.2, hlt, rfl⟩
    ·exact slr
    ·exact fun w hw => hw
    ·intro y hg1 _ hK16
     refine .sr fun _ hK17 => ?_
     refine .v (.lss rfl rfl) ?_
     refine .nt hK17 ?_
     refine .seq fun _ hK18 => ?_
     refine AK.condD rfl (fun hc1 => ?_) (fun hc1 => ?_)
     ·have hyL : (y.1 : Int) < a.L := by omega
      have hrwa := ha.row (x.2.1.1.getD x.1 (0, 0)).1.toNat (by omega)
      have hrwb := hb.row (x.2.1.1.getD x.1 (0, 0)).2.toNat (by omega)
      have hyl := hg1.2.1.len ha hb hL
      refine .skip ?_
      refine AK.then_ (hK18 _ ?_)
      refine .seq fun _ hK19 => ?_
      refine .block ?_
      refine .sr fun _ hK20 => ?_
      refine .mv rfl (.as rfl (.nt hK20 ?_))
      refine AK.stillTail 17 mixed krf (fun _ hws => ?_)
      refine .v hws (.move rfl) ?_
      refine .v hws (.fieldAddr fd25_3 rfl) ?_
      refine .v hws (.loadBox on23 rfl bsp rfl) ?_
      refine .v hws (.move rfl) ?_
      first | refine .v hws (.iN sl23 rfl rfl (hr := (by first | exact rdp | exact .arg (haNi _ (by omega)) | exact .arg (hbNi _ (by omega))))) ?_ | refine .v hws (.iK sl23 rfl rfl (hr := (by first | exact rdp | exact .arg (haNi _ (by omega)) | exact .arg (hbNi _ (by omega))))) ?_
      refine .v hws (.loadV on26 rfl (by first | exact rdp | exact .arg (haNi _ (by omega)) | exact .arg (hbNi _ (by omega))) (by omega)) ?_
      refine .v hws (.move rfl) ?_
      first | refine .v hws (.iN sl26 rfl rfl (hr := (by first | exact rdp | exact .arg (haNi _ (by omega)) | exact .arg (hbNi _ (by omega))))) ?_ | refine .v hws (.iK sl26 rfl rfl (hr := (by first | exact rdp | exact .arg (haNi _ (by omega)) | exact .arg (hbNi _ (by omega))))) ?_
      refine .v hws (.loadI on3 rfl (by first | exact rdp | exact .arg (haNi _ (by omega)) | exact .arg (hbNi _ (by omega))) (by omega)) ?_
      refine .v hws (.fieldAddr fd25_3 rfl) ?_
      refine .v hws (.loadBox on23 rfl bsp rfl) ?_
      refine .v hws (.move rfl) ?_
      first | refine .v hws (.iN sl23 rfl rfl (hr := (by first | exact rdp | exact .arg (haNi _ (by omega)) | exact .arg (hbNi _ (by omega))))) ?_ | refine .v hws (.iK sl23 rfl rfl (hr := (by first | exact rdp | exact .arg (haNi _ (by omega)) | exact .arg (hbNi _ (by omega))))) ?_
      refine .v hws (.loadV on26 rfl (by first | exact rdp | exact .arg (haNi _ (by omega)) | exact .arg (hbNi _ (by omega))) (by omega)) ?_
      refine .v hws (.move rfl) ?_
      first | refine .v hws (.iN sl26 rfl rfl (hr := (by first | exact rdp | exact .arg (haNi _ (by omega)) | exact .arg (hbNi _ (by omega))))) ?_ | refine .v hws (.iK sl26 rfl rfl (hr := (by first | exact rdp | exact .arg (haNi _ (by omega)) | exact .arg (hbNi _ (by omega))))) ?_
      refine .v hws (.loadI on3 rfl (by first | exact rdp | exact .arg (haNi _ (by omega)) | exact .arg (hbNi _ (by omega))) (by omega)) ?_
      refine SK.nil (SK.fin hws ?_)
      refine AK.own' [bigA [box bx6 26 1 [dv], row dv 3 1 (a.fin.length + b.fin.length) (y.2.2.1.map (Value.int .i64)), box bx8 65 1 [y.2.2.2], row y.2.2.2 64 2 y.2.1.1.length (pcs y.2.1.1), box bx9 4 1 [.bool y.2.1.2]], box bx2 25 4 [.int .i64 a.L, .int .i64 a.s, aF, aN], box bx3 25 4 [.int .i64 b.L, .int .i64 b.s, bF, bN], box bx7 79 1 [.func (.func 55) #[] #[.pointer (some ⟨bx6, 0, none⟩)]]] (fun w hw => HW.unflat (l := [_, _, _, _, _]) (own := [_, _, _]) (hw)) ?_
      refine AK.callVN 0 rfl (us := []) (cs := [.pointer (some ⟨bx7, 0, none⟩), .pointer (some ⟨bx2, 0, none⟩), .pointer (some ⟨bx6, 0, none⟩), .pointer (some ⟨bx8, 0, none⟩), .pointer (some ⟨bx9, 0, none⟩), .pointer (some ⟨bx3, 0, none⟩)]) co56 rfl rfl (fun w Fs hw hh hfr hal => s_meet w (Fs 0) bx2 bx3 bx6 bx7 bx8 bx9 dv y.2.2.2 aF aN bF bN y.2.2.1 a b y.2.1 (stepQ a (x.2.1.1.getD x.1 (0, 0)).1 y.1) (stepQ b (x.2.1.1.getD x.1 (0, 0)).2 y.1) (hh.at_ 0 _ rfl) (BxA.own 1 hw rfl) (hh.boxN 1 rfl (by decide)) (BxA.own 2 hw rfl) (hh.boxN 2 rfl (by decide)) (BxA.own 3 hw rfl) (hh.boxN 3 rfl (by decide)) (haF0.off hfr hal) (hbF0.off hfr hal) hg1.2.2.1 (stepQ_inr ha ⟨hp1, hp2⟩ hyL) (stepQ_inr hb ⟨hp3, hp4⟩ (by omega)) ha hb (by omega) hg1.2.2.2.1) trivial rfl ?_
      rintro r A o ⟨f2, qv2, sq2, hr2, rfl, rfl, rfl⟩
      refine AK.flat0 rfl ?_
      refine .nil (.block_normal ?_)
      refine AK.then_ (hK19 _ ?_)
      refine AK.region ?_
      refine .v (.add rfl rfl (by omega)) ?_
      refine .mv rfl (.nil ?_)
      refine AK.then_ (hK16 _ _ ((y.1 + 1, meetS a b y.2.1 (stepP a b (x.2.1.1.getD x.1 (0, 0)) y.1), f2, qv2)) ⟨by dsimp only; omega, (by have h := hg1.2.1.meet ha hg1.2.2.2.2.1 hyL; rw [hg1.2.2.2.2.2] at h; exact h), hr2, sq2, (by dsimp only; obtain ⟨ys, e⟩ := meet_pre a b y.2.1 (stepP a b (x.2.1.1.getD x.1 (0, 0)) y.1); rw [e, List.length_append]; omega), (by dsimp only; obtain ⟨ys, e⟩ := meet_pre a b y.2.1 (stepP a b (x.2.1.1.getD x.1 (0, 0)) y.1); rw [e, getD_app _ hg1.2.2.2.2.1]; exact hg1.2.2.2.2.2)⟩ (by dsimp only; omega) (slr) (fun w hw => hw))
     ·refine .exit (.then_exit (.then_exit (.block_exit (.block_normal ?_))))
      refine AK.then_ (hK13 _ ?_)
      refine AK.region ?_
      refine .mv rfl ?_
      refine .v (.add rfl rfl (by omega)) ?_
      refine .as rfl (.nil ?_)
      refine AK.then_ (hK10 _ _ ((x.1 + 1, y.2)) ⟨by dsimp only; omega, hg1.2.1.next (by omega), hg1.2.2.1, hg1.2.2.2.1⟩ (by dsimp only; omega) (slr) (fun w hw => hw))
   ·try simp only [bs] at hc0
    refine .exit (.then_exit (.then_exit (.block_exit ?_)))
    refine AK.then_ (hK8 _ ?_)
    refine .seq fun _ hK21 => ?_
    refine .sr fun _ hK22 => ?_
    refine .v (.loadBox on4 rfl bsp rfl) ?_
    refine .v (.not rfl) ?_
    refine .nt hK22 ?_
    refine AK.condB rfl (fun hc2 => ?_) (fun hc2 => ?_)
    ·have hsf : x.2.1.2 = false := by simpa using hc2
     refine .sr fun _ hK23 => ?_
     refine .as rfl (.as rfl (.nt hK23 (.ret (.then_ret ?_))))
     refine AK.ghost 3 1 ?_
     refine AK.ret2 rfl rfl rfl (fun w hw => ⟨_, _, ?_, rfl, Ret.of (hw.pick [8] (by decide) rfl rfl)⟩)
     exact ⟨_, [], false, rfl, nilSl, rfl, fun h => (by cases h), fun _ => ⟨hg0.2.1.differ hsf, rfl⟩⟩
    ·have hst : x.2.1.2 = true := by simpa using hc2
     have hdn := hg0.2.1.done ha hb hL (by first | omega | (rw [hst] at *; simp_all; done)) hst
     refine .skip ?_
     refine AK.then_ (hK21 _ ?_)
     refine .seq fun _ hK24 => ?_
     refine .sr fun _ hK25 => ?_
     refine .v (.loadBox on26 rfl bsp rfl) ?_
     refine .v (.lenR sl26 rfl (by first | exact rdp | exact .arg (haNi _ (by omega)) | exact .arg (hbNi _ (by omega)))) ?_
     refine .mv rfl (.nt hK25 (.block ?_))
     refine AK.loopK (X := Nat × List Int) [(6, _), (7, _), (78, _)] (fun z => [(79, .int .i64 (z.1 : Int))]) (fun z => [box bx6 26 1 [dv], row dv 3 1 (a.fin.length + b.fin.length) (z.2.map (Value.int .i64)), box bx8 65 1 [x.2.2.2], row x.2.2.2 64 2 x.2.1.1.length (pcs x.2.1.1), box bx9 4 1 [.bool x.2.1.2], box bx2 25 4 [.int .i64 a.L, .int .i64 a.s, aF, aN], box bx3 25 4 [.int .i64 b.L, .int .i64 b.s, bF, bN], box bx7 79 1 [.func (.func 55) #[] #[.pointer (some ⟨bx6, 0, none⟩)]]]) (fun z => z.1 ≤ (a.fin.length + b.fin.length) ∧ Rep (UR a.fin.length x.2.1.1) z.2 (a.fin.length + b.fin.length) ∧ ∀ j, j < z.1 → z.2.getD j 0 = (((UR a.fin.length x.2.1.1) j : Nat) : Int)) (fun z => (a.fin.length + b.fin.length) - z.1) ((0, x.2.2.1)) slr ?_ ?_ ?_ ?_
     ·exact ⟨Nat.zero_le _, hg0.2.2.1, fun j hj => by cases hj⟩
     ·exact slr
     ·exact fun w hw => hw
     ·intro z hg2 _ hK26
      refine .sr fun _ hK27 => ?_
      refine .v (.lss rfl rfl) ?_
      refine .nt hK27 ?_
      refine .seq fun _ hK28 => ?_
      refine AK.condD rfl (fun hc3 => ?_) (fun hc3 => ?_)
      ·refine .skip ?_
       refine AK.then_ (hK28 _ ?_)
       refine .seq fun _ hK29 => ?_
       refine .block ?_
       refine .sr fun _ hK30 => ?_
       refine .mv rfl (.as rfl (.nt hK30 ?_))
       try (conv => enter [2, 2]; dsimp only [List.set_cons_zero, List.set_cons_succ, List.cons_append, List.nil_append])
       refine AK.heldS _ 6 (fun _ hw => hw.pick [0, 7] (by decide) rfl rfl) mixed ?_
       refine HeldK.firstS (fun _ hw => hw.pick [0, 7] (by decide) rfl rfl) 0 (fuel := 6) (listed' := (lb 7 1)) _ rfl krf krf rfl (Yl.loadBox on26 rfl bsp rfl) trivial rfl ?_
       refine HeldK.firstS (fun _ hw => hw.pick [0, 7] (by decide) rfl rfl) 1 (fuel := 5) (listed' := (lb 7 3)) _ rfl krf krf rfl (Yl.move rfl) trivial rfl ?_
       refine HeldK.firstS (fun _ hw => hw.pick [0, 7] (by decide) rfl rfl) 2 (fuel := 4) (listed' := (lb 7 7)) _ rfl krf krf rfl (Yl.loadBox on79 rfl bsp rfl) trivial rfl ?_
       refine HeldK.firstS (fun _ hw => hw.pick [0, 7] (by decide) rfl rfl) 3 (fuel := 3) (listed' := (lb 7 15)) _ rfl krf krf rfl (Yl.move rfl) trivial rfl ?_
       refine HeldK.one 4 (fuel := 2) (listed' := (lb 7 31)) krf rfl krf ?_
       refine AK.own' [bigA [box bx6 26 1 [dv], row dv 3 1 (a.fin.length + b.fin.length) (z.2.map (Value.int .i64))], box bx8 65 1 [x.2.2.2], row x.2.2.2 64 2 x.2.1.1.length (pcs x.2.1.1), box bx9 4 1 [.bool x.2.1.2], box bx2 25 4 [.int .i64 a.L, .int .i64 a.s, aF, aN], box bx3 25 4 [.int .i64 b.L, .int .i64 b.s, bF, bN], box bx7 79 1 [.func (.func 55) #[] #[.pointer (some ⟨bx6, 0, none⟩)]]] (fun w hw => HW.unflat (l := [_, _]) (own := [_, _, _, _, _, _]) hw) ?_
       refine AK.callVN 0 rfl (us := []) (cs := [.pointer (some ⟨bx6, 0, none⟩)]) co55 rfl rfl (fun w Fs hw hh hfr hal => s_root w (Fs 0) bx6 dv z.2 (UR a.fin.length x.2.1.1) (a.fin.length + b.fin.length) (z.1 : Int) (hh.at_ 0 _ rfl) hg2.2.1 (by omega) (by omega)) trivial rfl ?_
       rintro r A o ⟨f2, hr2, hat, rfl, rfl, rfl⟩
       refine AK.flat0 rfl ?_
       refine .nil ?_
       try (conv => enter [2, 2]; dsimp only [List.set_cons_zero, List.set_cons_succ, List.cons_append, List.nil_append])
       refine HeldK.backS (fun _ hw => hw.pick [0, 7] (by decide) rfl rfl) ?_
       refine HeldK.one 5 (fuel := 1) (listed' := (lb 7 63)) krf rfl krf ?_
       first | refine .v (.iN sl26 rfl rfl (hr := (by first | exact rdp | exact .arg (haNi _ (by omega)) | exact .arg (hbNi _ (by omega))))) ?_ | refine .v (.iK sl26 rfl rfl (hr := (by first | exact rdp | exact .arg (haNi _ (by omega)) | exact .arg (hbNi _ (by omega))))) ?_
       refine .nil ?_
       try (conv => enter [2, 2]; dsimp only [List.set_cons_zero, List.set_cons_succ, List.cons_append, List.nil_append])
       refine HeldK.backS (fun _ hw => hw.pick [0, 7] (by decide) rfl rfl) ?_
       refine HeldK.one 6 (fuel := 0) (listed' := (lb 7 127)) krf rfl krf ?_
       refine AK.store1e 1 rfl sz3 rfl rfl rfl rfl (by omega) (cs' := ((f2.set z.1 (((UR a.fin.length x.2.1.1) z.1 : Nat) : Int)).map (Value.int .i64))) (by rw [List.map_set]; simp only [Int.toNat_natCast]) trivial ?_
       refine .nil ?_
       try (conv => enter [2, 2]; dsimp only [List.set_cons_zero, List.set_cons_succ, List.cons_append, List.nil_append])
       refine HeldK.backN 7 krf rfl krf ?_
       refine .nil ?_
       refine AK.fromQn ?_
       refine .block_normal ?_
       refine AK.then_ (hK29 _ ?_)
       refine AK.region ?_
       refine .v (.add rfl rfl (by omega)) ?_
       refine .mv rfl (.nil ?_)
       refine AK.then_ (hK26 _ _ ((z.1 + 1, f2.set z.1 (((UR a.fin.length x.2.1.1) z.1 : Nat) : Int))) ⟨by dsimp only; omega, hr2.setRoot (by omega), fun j hj => by
      dsimp only at hj ⊢
      by_cases e : z.1 = j
      ·subst e; exact Pt.getD_set_same (by rw [hr2.1]; omega) _
      ·rw [Pt.getD_set_other e]; exact hat j (by omega) (hg2.2.2 j (by omega))⟩ (by dsimp only; omega) (slr) (fun w hw => hw))
      ·have hall : z.2 = rhoL (a.fin.length + b.fin.length) (UR a.fin.length x.2.1.1) := all_root hg2.2.1.1 (fun j hj => hg2.2.2 j (by omega))
       refine .exit (.then_exit (.then_exit (.block_exit ?_)))
       refine AK.then_ (hK24 _ ?_)
       refine .sr fun _ hK31 => ?_
       refine .v (.loadBox on26 rfl bsp rfl) ?_
       refine AK.call co57 rfl (fun w hw => q_canon w dv (rhoL (a.fin.length + b.fin.length) (UR a.fin.length x.2.1.1)) (RdI.ownE 1 hw rfl (rhoL_length _ _).symm (by rw [hall]))) trivial rfl ?_
       rintro cv o rfl
       refine AK.shape 8 rfl (fun scv => ?_)
       refine .as rfl (.as rfl (.nt hK31 (.ret ?_)))
       refine AK.ret2 rfl rfl rfl (fun w hw => ⟨_, _, ?_, rfl, Ret.of (hw.pick [8] (by decide) rfl rfl)⟩)
       have ecb : canonB (rhoL (a.fin.length + b.fin.length) (UR a.fin.length x.2.1.1)) = leastL a b := by unfold canonB; rw [if_pos (by rw [rhoL_length]; omega)]; exact hdn.2
       rw [ecb]
       exact ⟨cv, leastL a b, true, rfl, scv, rfl, fun _ => ⟨hdn.1, rfl⟩, fun h => (by cases h)⟩
  ·have hg_8_4' := hg_8_4
   try simp only [bs] at hg_8_4'
   refine AK.pass rfl rfl (hg_8_4) rfl ?_
   refine .v (.pickF rfl (hg_8_4) rfl) ?_
   refine .nt hK12 ?_
   refine AK.cond_f rfl (rfl) ?_
   refine .exit (.then_exit (.then_exit (.block_exit ?_)))
   refine AK.then_ (hK8 _ ?_)
   refine .seq fun _ hK32 => ?_
   refine .sr fun _ hK33 => ?_
   refine .v (.loadBox on4 rfl bsp rfl) ?_
   refine .v (.not rfl) ?_
   refine .nt hK33 ?_
   refine AK.condB rfl (fun hc2 => ?_) (fun hc2 => ?_)
   ·have hsf : x.2.1.2 = false := by simpa using hc2
    refine .sr fun _ hK34 => ?_
    refine .as rfl (.as rfl (.nt hK34 (.ret (.then_ret ?_))))
    refine AK.ghost 3 1 ?_
    refine AK.ret2 rfl rfl rfl (fun w hw => ⟨_, _, ?_, rfl, Ret.of (hw.pick [8] (by decide) rfl rfl)⟩)
    exact ⟨_, [], false, rfl, nilSl, rfl, fun h => (by cases h), fun _ => ⟨hg0.2.1.differ hsf, rfl⟩⟩
   ·have hst : x.2.1.2 = true := by simpa using hc2
    have hdn := hg0.2.1.done ha hb hL (by first | omega | (rw [hst] at *; simp_all; done)) hst
    refine .skip ?_
    refine AK.then_ (hK32 _ ?_)
    refine .seq fun _ hK35 => ?_
    refine .sr fun _ hK36 => ?_
    refine .v (.loadBox on26 rfl bsp rfl) ?_
    refine .v (.lenR sl26 rfl (by first | exact rdp | exact .arg (haNi _ (by omega)) | exact .arg (hbNi _ (by omega)))) ?_
    refine .mv rfl (.nt hK36 (.block ?_))
    refine AK.loopK (X := Nat × List Int) [(6, _), (7, _), (78, _)] (fun z => [(79, .int .i64 (z.1 : Int))]) (fun z => [box bx6 26 1 [dv], row dv 3 1 (a.fin.length + b.fin.length) (z.2.map (Value.int .i64)), box bx8 65 1 [x.2.2.2], row x.2.2.2 64 2 x.2.1.1.length (pcs x.2.1.1), box bx9 4 1 [.bool x.2.1.2], box bx2 25 4 [.int .i64 a.L, .int .i64 a.s, aF, aN], box bx3 25 4 [.int .i64 b.L, .int .i64 b.s, bF, bN], box bx7 79 1 [.func (.func 55) #[] #[.pointer (some ⟨bx6, 0, none⟩)]]]) (fun z => z.1 ≤ (a.fin.length + b.fin.length) ∧ Rep (UR a.fin.length x.2.1.1) z.2 (a.fin.length + b.fin.length) ∧ ∀ j, j < z.1 → z.2.getD j 0 = (((UR a.fin.length x.2.1.1) j : Nat) : Int)) (fun z => (a.fin.length + b.fin.length) - z.1) ((0, x.2.2.1)) slr ?_ ?_ ?_ ?_
    ·exact ⟨Nat.zero_le _, hg0.2.2.1, fun j hj => by cases hj⟩
    ·exact slr
    ·exact fun w hw => hw
    ·intro z hg2 _ hK37
     refine .sr fun _ hK38 => ?_
     refine .v (.lss rfl rfl) ?_
     refine .nt hK38 ?_
     refine .seq fun _ hK39 => ?_
     refine AK.condD rfl (fun hc3 => ?_) (fun hc3 => ?_)
     ·refine .skip ?_
      refine AK.then_ (hK39 _ ?_)
      refine .seq fun _ hK40 => ?_
      refine .block ?_
      refine .sr fun _ hK41 => ?_
      refine .mv rfl (.as rfl (.nt hK41 ?_))
      try (conv => enter [2, 2]; dsimp only [List.set_cons_zero, List.set_cons_succ, List.cons_append, List.nil_append])
      refine AK.heldS _ 6 (fun _ hw => hw.pick [0, 7] (by decide) rfl rfl) mixed ?_
      refine HeldK.firstS (fun _ hw => hw.pick [0, 7] (by decide) rfl rfl) 0 (fuel := 6) (listed' := (lb 7 1)) _ rfl krf krf rfl (Yl.loadBox on26 rfl bsp rfl) trivial rfl ?_
      refine HeldK.firstS (fun _ hw => hw.pick [0, 7] (by decide) rfl rfl) 1 (fuel := 5) (listed' := (lb 7 3)) _ rfl krf krf rfl (Yl.move rfl) trivial rfl ?_
      refine HeldK.firstS (fun _ hw => hw.pick [0, 7] (by decide) rfl rfl) 2 (fuel := 4) (listed' := (lb 7 7)) _ rfl krf krf rfl (Yl.loadBox on79 rfl bsp rfl) trivial rfl ?_
      refine HeldK.firstS (fun _ hw => hw.pick [0, 7] (by decide) rfl rfl) 3 (fuel := 3) (listed' := (lb 7 15)) _ rfl krf krf rfl (Yl.move rfl) trivial rfl ?_
      refine HeldK.one 4 (fuel := 2) (listed' := (lb 7 31)) krf rfl krf ?_
      refine AK.own' [bigA [box bx6 26 1 [dv], row dv 3 1 (a.fin.length + b.fin.length) (z.2.map (Value.int .i64))], box bx8 65 1 [x.2.2.2], row x.2.2.2 64 2 x.2.1.1.length (pcs x.2.1.1), box bx9 4 1 [.bool x.2.1.2], box bx2 25 4 [.int .i64 a.L, .int .i64 a.s, aF, aN], box bx3 25 4 [.int .i64 b.L, .int .i64 b.s, bF, bN], box bx7 79 1 [.func (.func 55) #[] #[.pointer (some ⟨bx6, 0, none⟩)]]] (fun w hw => HW.unflat (l := [_, _]) (own := [_, _, _, _, _, _]) hw) ?_
      refine AK.callVN 0 rfl (us := []) (cs := [.pointer (some ⟨bx6, 0, none⟩)]) co55 rfl rfl (fun w Fs hw hh hfr hal => s_root w (Fs 0) bx6 dv z.2 (UR a.fin.length x.2.1.1) (a.fin.length + b.fin.length) (z.1 : Int) (hh.at_ 0 _ rfl) hg2.2.1 (by omega) (by omega)) trivial rfl ?_
      rintro r A o ⟨f2, hr2, hat, rfl, rfl, rfl⟩
      refine AK.flat0 rfl ?_
      refine .nil ?_
      try (conv => enter [2, 2]; dsimp only [List.set_cons_zero, List.set_cons_succ, List.cons_append, List.nil_append])
      refine HeldK.backS (fun _ hw => hw.pick [0, 7] (by decide) rfl rfl) ?_
      refine HeldK.one 5 (fuel := 1) (listed' := (lb 7 63)) krf rfl krf ?_
      first | refine .v (.iN sl26 rfl rfl (hr := (by first | exact rdp | exact .arg (haNi _ (by omega)) | exact .arg (hbNi _ (by omega))))) ?_ | refine .v (.iK sl26 rfl rfl (hr := (by first | exact rdp | exact .arg (haNi _ (by omega)) | exact .arg (hbNi _ (by omega))))) ?_
      refine .nil ?_
      try (conv => enter [2, 2]; dsimp only [List.set_cons_zero, List.set_cons_succ, List.cons_append, List.nil_append])
      refine HeldK.backS (fun _ hw => hw.pick [0, 7] (by decide) rfl rfl) ?_
      refine HeldK.one 6 (fuel := 0) (listed' := (lb 7 127)) krf rfl krf ?_
      refine AK.store1e 1 rfl sz3 rfl rfl rfl rfl (by omega) (cs' := ((f2.set z.1 (((UR a.fin.length x.2.1.1) z.1 : Nat) : Int)).map (Value.int .i64))) (by rw [List.map_set]; simp only [Int.toNat_natCast]) trivial ?_
      refine .nil ?_
      try (conv => enter [2, 2]; dsimp only [List.set_cons_zero, List.set_cons_succ, List.cons_append, List.nil_append])
      refine HeldK.backN 7 krf rfl krf ?_
      refine .nil ?_
      refine AK.fromQn ?_
      refine .block_normal ?_
      refine AK.then_ (hK40 _ ?_)
      refine AK.region ?_
      refine .v (.add rfl rfl (by omega)) ?_
      refine .mv rfl (.nil ?_)
      refine AK.then_ (hK37 _ _ ((z.1 + 1, f2.set z.1 (((UR a.fin.length x.2.1.1) z.1 : Nat) : Int))) ⟨by dsimp only; omega, hr2.setRoot (by omega), fun j hj => by
      dsimp only at hj ⊢
      by_cases e : z.1 = j
      ·subst e; exact Pt.getD_set_same (by rw [hr2.1]; omega) _
      ·rw [Pt.getD_set_other e]; exact hat j (by omega) (hg2.2.2 j (by omega))⟩ (by dsimp only; omega) (slr) (fun w hw => hw))
     ·have hall : z.2 = rhoL (a.fin.length + b.fin.length) (UR a.fin.length x.2.1.1) := all_root hg2.2.1.1 (fun j hj => hg2.2.2 j (by omega))
      refine .exit (.then_exit (.then_exit (.block_exit ?_)))
      refine AK.then_ (hK35 _ ?_)
      refine .sr fun _ hK42 => ?_
      refine .v (.loadBox on26 rfl bsp rfl) ?_
      refine AK.call co57 rfl (fun w hw => q_canon w dv (rhoL (a.fin.length + b.fin.length) (UR a.fin.length x.2.1.1)) (RdI.ownE 1 hw rfl (rhoL_length _ _).symm (by rw [hall]))) trivial rfl ?_
      rintro cv o rfl
      refine AK.shape 8 rfl (fun scv => ?_)
      refine .as rfl (.as rfl (.nt hK42 (.ret ?_)))
      refine AK.ret2 rfl rfl rfl (fun w hw => ⟨_, _, ?_, rfl, Ret.of (hw.pick [8] (by decide) rfl rfl)⟩)
      have ecb : canonB (rhoL (a.fin.length + b.fin.length) (UR a.fin.length x.2.1.1)) = leastL a b := by unfold canonB; rw [if_pos (by rw [rhoL_length]; omega)]; exact hdn.2
      rw [ecb]
      exact ⟨cv, leastL a b, true, rfl, scv, rfl, fun _ => ⟨hdn.1, rfl⟩, fun h => (by cases h)⟩

end Go.Proofs.Ytifnofnnjcchhaa
