import Derived.Test.YtaeojcaidcjnaaaXW5
import Derived.Test.YtaeojcaidcjnaaaXRR
set_option linter.unusedVariables false
set_option linter.unusedSimpArgs false
namespace Go.Proofs.Ytaeojcaidcjnaaa
open Go.Sx Go.RowKit
set_option maxHeartbeats 2000000 in
set_option maxRecDepth 100000 in
theorem s_apply (w : World) (F : Nat → Prop) (bt k i : Nat) (vl vs : Value) (T : Wrd) (R : List Int) (rs : List Rul) (bf : Nat) (v vn vf : Value) (ps N : List Wrd) (fl fd : List Int) (hF : FinOK ps N fl fd) (hN : N.length ≤ 4200000) (hbf : BxA w bf [vn, vf]) (nbf : ¬ F bf) (hvn : Rd (fun b => ¬ F b) w vn 6 N.length (fl.map (Value.int .i32))) (hvf : Rd (fun b => ¬ F b) w vf 1 N.length (fd.map (Value.int .i32))) (hv : Rd (fun b => ¬ F b) w v 2 rs.length (rlc rs)) (hll : ∀ k, k < rs.length → (rs.getD k ([], [])).1.length ≤ 2048 ∧ (rs.getD k ([], [])).2.length ≤ 2048) (svl : IsSl vl) (svs : IsSl vs) (hT : ∀ k, k < T.length → 97 ≤ (T.getD k 0).toNat ∧ (T.getD k 0).toNat < 103) (hR : R.length = T.length) (hTl : T.length ≤ 2048) (hok : ∀ j, j < T.length → StA N T j (R.getD j 0)) (hk : k < T.length) (hi : i < rs.length) (hfi : ∀ t : Nat, R.getD k 0 = (t : Int) → fd.getD t 0 = (i : Int)) (hsf : (rs.getD i ([], [])).1.reverse <:+ T.take (k + 1)) (hlr : (rs.getD i ([], [])).2.length ≤ (rs.getD i ([], [])).1.length) (hAl2 : Al (rs.getD i ([], [])).2) (hA : (bigA [box bt 91 2 [vl, vs], rowZ vl 5 T.length (T.map byv), row vs 21 1 T.length (R.map (Value.int .i32))]).holds w F) : CallM Try.prog 55 [.agg #[v, .pointer (some ⟨bf, 0, none⟩)], .pointer (some ⟨bt, 0, none⟩), .int .i64 (k : Int)] w F (fun r A o => ∃ (vl' vs' : Value) (R' : List Int) (z : Int), IsSl vl' ∧ IsSl vs' ∧ (∀ j, j < (newT T k (rs.getD i ([], []))).length → StA N (newT T k (rs.getD i ([], []))) j (R'.getD j 0)) ∧ R'.length = (newT T k (rs.getD i ([], []))).length ∧ (∃ e : Nat, z + 1 = (e : Int) ∧ e ≤ (newT T k (rs.getD i ([], []))).length ∧ ∀ j, e ≤ j → j < (newT T k (rs.getD i ([], []))).length → k < j + ((rs.getD i ([], [])).1.length - (rs.getD i ([], [])).2.length) ∧ R'.getD j 0 = R.getD (j + ((rs.getD i ([], [])).1.length - (rs.getD i ([], [])).2.length)) 0) ∧ A = bigA [box bt 91 2 [vl', vs'], rowZ vl' 5 (newT T k (rs.getD i ([], []))).length ((newT T k (rs.getD i ([], []))).map byv), row vs' 21 1 (newT T k (rs.getD i ([], []))).length (R'.map (Value.int .i32))] ∧ r = .int .i64 z ∧ o = []) := by
 have hsv := Rd.sl hv
 have hfdl := hF.fdl
 have hll := hll i hi
 obtain ⟨t, ht, htN⟩ := (hok k hk).nat
 have hft := hfi t ht
 have hsl := hsf.length_le
 rw [List.length_reverse, List.length_take] at hsl
 obtain ⟨lo, hlo⟩ : ∃ lo, lo + (rs.getD i ([], [])).1.length = k + 1 := ⟨k + 1 - (rs.getD i ([], [])).1.length, by omega⟩
 have hlo' : k + 1 - (rs.getD i ([], [])).1.length = lo := by omega
 obtain ⟨sh, hsh⟩ : ∃ sh, (rs.getD i ([], [])).2.length + sh = (rs.getD i ([], [])).1.length := ⟨(rs.getD i ([], [])).1.length - (rs.getD i ([], [])).2.length, by omega⟩
 have hlen : (newT T k (rs.getD i ([], []))).length = (T.length - sh) := by rw [newT_len hk hsf hlr]; omega
 have svl2 := svl.to (T.length - sh)
 have svs2 := svs.to (T.length - sh)
 have hcl : (cpy' R (lo + (rs.getD i ([], [])).2.length) (k + 1)).length = (T.length - sh) := by simp only [cpy', List.length_append, List.length_take, List.length_drop]; omega
 refine specM_of' Try.func55 rfl (Nat.le_of_ble_eq_true rfl) hA ?_
 refine .sr fun _ hK1 => ?_
 refine AK.box_ (E := 62) (cs := [v, .pointer (some ⟨bf, 0, none⟩)]) rfl rfl rfl trivial rfl (fun bx3 => ?_)
 refine .as rfl (.nt hK1 ?_)
 refine .seq fun _ hK2 => ?_
 try (conv => enter [2, 2]; dsimp only [List.set_cons_zero, List.set_cons_succ, List.cons_append, List.nil_append])
 refine AK.held 19 mixed ?_
 refine HeldK.first 0 (fuel := 19) (listed' := (lb 20 1)) _ rfl krf krf rfl (Yl.fieldAddr fd62_0 rfl) trivial rfl ?_
 refine HeldK.first 1 (fuel := 18) (listed' := (lb 20 3)) _ rfl krf krf rfl (Yl.loadBox on22 rfl bsp rfl) trivial rfl ?_
 refine HeldK.first 2 (fuel := 17) (listed' := (lb 20 7)) _ rfl krf krf rfl (Yl.fieldAddr fd62_1 rfl) trivial rfl ?_
 refine HeldK.first 3 (fuel := 16) (listed' := (lb 20 15)) _ rfl krf krf rfl (Yl.loadBox on60 rfl bsp rfl) trivial rfl ?_
 refine HeldK.first 4 (fuel := 15) (listed' := (lb 20 31)) _ rfl krf krf rfl (Yl.nilCheck rfl) trivial rfl ?_
 refine HeldK.first 5 (fuel := 14) (listed' := (lb 20 63)) _ rfl krf krf rfl (Yl.fieldAddr fd72_1 rfl) trivial rfl ?_
 refine HeldK.first 6 (fuel := 13) (listed' := (lb 20 127)) _ rfl krf krf rfl (Yl.loadBox on70 rfl bsp rfl) trivial rfl ?_
 refine HeldK.first 7 (fuel := 12) (listed' := (lb 20 255)) _ rfl krf krf rfl (Yl.move rfl) trivial rfl ?_
 refine HeldK.first 8 (fuel := 11) (listed' := (lb 20 511)) _ rfl krf krf rfl (Yl.nilCheck rfl) trivial rfl ?_
 refine HeldK.first 9 (fuel := 10) (listed' := (lb 20 1023)) _ rfl krf krf rfl (Yl.fieldAddr fd91_1 rfl) trivial rfl ?_
 refine HeldK.first 10 (fuel := 9) (listed' := (lb 20 2047)) _ rfl krf krf rfl (Yl.loadBox on70 rfl bsp rfl) trivial rfl ?_
 refine HeldK.first 11 (fuel := 8) (listed' := (lb 20 4095)) _ rfl krf krf rfl (Yl.move rfl) trivial rfl ?_
 first | refine HeldK.first 12 (fuel := 7) (listed' := (lb 20 8191)) _ rfl krf krf rfl (.iN sl70 rfl rfl (hr := (by first | exact rdp | exact (RdS.ownZ 1 rfl)))) trivial rfl ?_ | refine HeldK.first 12 (fuel := 7) (listed' := (lb 20 8191)) _ rfl krf krf rfl (.iK sl70 rfl rfl (hr := (by first | exact rdp | exact (RdS.ownZ 1 rfl)))) trivial rfl ?_
 refine HeldK.first 13 (fuel := 6) (listed' := (lb 20 16383)) _ rfl krf krf rfl (Yl.valE (Yl.loadI on21 rfl rdp (by omega)) (congrArg (Value.int .i32) ht)) trivial rfl ?_
 first | refine HeldK.first 14 (fuel := 5) (listed' := (lb 20 32767)) _ rfl krf krf rfl (.iN sl70 rfl rfl (hr := (by first | exact rdp | exact (RdS.ownZ 1 rfl)))) trivial rfl ?_ | refine HeldK.first 14 (fuel := 5) (listed' := (lb 20 32767)) _ rfl krf krf rfl (.iK sl70 rfl rfl (hr := (by first | exact rdp | exact (RdS.ownZ 1 rfl)))) trivial rfl ?_
 refine HeldK.first 15 (fuel := 4) (listed' := (lb 20 65535)) _ rfl krf krf rfl (Yl.valE (Yl.loadI on21 rfl rdp (by omega)) (congrArg (Value.int .i32) hft)) trivial rfl ?_
 first | refine HeldK.first 16 (fuel := 3) (listed' := (lb 20 131071)) _ rfl krf krf rfl (.iN sl22 rfl rfl (hr := (by first | exact rdp | exact (RdS.ownZ 1 rfl)))) trivial rfl ?_ | refine HeldK.first 16 (fuel := 3) (listed' := (lb 20 131071)) _ rfl krf krf rfl (.iK sl22 rfl rfl (hr := (by first | exact rdp | exact (RdS.ownZ 1 rfl)))) trivial rfl ?_
 refine HeldK.first 17 (fuel := 2) (listed' := (lb 20 262143)) _ rfl krf krf rfl (Yl.loadRu ag41 rfl rdp (by omega)) trivial rfl ?_
 refine HeldK.one 18 (fuel := 1) (listed' := (lb 20 524287)) krf rfl krf ?_
 refine AK.alloc el41 rfl rfl trivial rfl (fun bx7 => ?_)
 refine .nil ?_
 try (conv => enter [2, 2]; dsimp only [List.set_cons_zero, List.set_cons_succ, List.cons_append, List.nil_append])
 refine HeldK.back Go.Sx.hle ?_
 refine HeldK.one 19 (fuel := 0) (listed' := (lb 20 1048575)) krf rfl krf ?_
 refine AK.storeBox 4 (us := rcs (rs.getD i ([], []))) (cs' := rcs (rs.getD i ([], []))) rfl sz41 rfl rfl rfl rfl oneP (Nat.le_of_ble_eq_true rfl) rfl trivial ?_
 refine .nil ?_
 try (conv => enter [2, 2]; dsimp only [List.set_cons_zero, List.set_cons_succ, List.cons_append, List.nil_append])
 refine HeldK.backN 20 krf rfl krf ?_
 refine .nil ?_
 refine AK.fromQn ?_
 refine AK.then_ (hK2 _ ?_)
 refine .sr fun _ hK3 => ?_
 refine .mv rfl ?_
 refine .v (.add rfl rfl (by omega)) ?_
 refine .v (.fieldAddr fd41_0 rfl) ?_
 refine .v (.loadBox on9 rfl bsp rfl) ?_
 refine .v (.lenS un9 rfl) ?_
 refine .v (.subE ((lo : Int)) rfl rfl (by omega) (by omega)) ?_
 refine .as rfl (.nt hK3 ?_)
 refine .sr fun _ hK4 => ?_
 refine .mv rfl ?_
 refine .v (.fieldAddr fd41_1 rfl) ?_
 refine .v (.loadBox on9 rfl bsp rfl) ?_
 refine .v (.lenS un9 rfl) ?_
 refine .v (.addE ((((lo + (rs.getD i ([], [])).2.length) : Nat) : Int)) rfl rfl (by omega) (by omega)) ?_
 refine .as rfl (.nt hK4 ?_)
 refine .sr fun _ hK5 => ?_
 refine .v (.fieldAddr fd41_0 rfl) ?_
 refine .v (.loadBox on9 rfl bsp rfl) ?_
 refine .v (.lenS un9 rfl) ?_
 refine .v (.fieldAddr fd41_1 rfl) ?_
 refine .v (.loadBox on9 rfl bsp rfl) ?_
 refine .v (.lenS un9 rfl) ?_
 refine .v (.subE ((sh : Int)) rfl rfl (by omega) (by omega)) ?_
 refine .as rfl (.nt hK5 ?_)
 refine .seq fun _ hK6 => ?_
 refine AK.stillTail 13 mixed krf (fun _ hws => ?_)
 refine .v hws (.move rfl) ?_
 refine .v hws (.nilCheck rfl) ?_
 refine .v hws (.fieldAddr fd91_0 rfl) ?_
 refine .v hws (.loadBox on78 rfl bsp rfl) ?_
 refine .v hws (.move rfl) ?_
 refine .v hws (.sliceFr (CutS.rowZ 1 rfl) sl78 rfl rfl (by omega)) ?_
 refine .v hws (.move rfl) ?_
 refine .v hws (.nilCheck rfl) ?_
 refine .v hws (.fieldAddr fd91_0 rfl) ?_
 refine .v hws (.loadBox on78 rfl bsp rfl) ?_
 refine .v hws (.move rfl) ?_
 refine .v hws (.addE (((k + 1 : Nat) : Int)) rfl rfl (by omega) (by omega)) ?_
 refine .v hws (.sliceFr (CutS.rowZ 1 rfl) sl78 rfl rfl (by omega)) ?_
 refine SK.nil (SK.fin hws ?_)
 refine AK.copyZ 1 (a := (lo + (rs.getD i ([], [])).2.length)) (b := k + 1) rfl sl78 rfl rfl (by omega) (one_byv _) trivial rfl ?_
 refine .nt hK6 ?_
 refine .seq fun _ hK7 => ?_
 refine AK.stillTail 13 mixed krf (fun _ hws => ?_)
 refine .v hws (.move rfl) ?_
 refine .v hws (.nilCheck rfl) ?_
 refine .v hws (.fieldAddr fd91_1 rfl) ?_
 refine .v hws (.loadBox on70 rfl bsp rfl) ?_
 refine .v hws (.move rfl) ?_
 refine .v hws (.sliceFr (CutS.row 2 rfl) sl70 rfl rfl (by omega)) ?_
 refine .v hws (.move rfl) ?_
 refine .v hws (.nilCheck rfl) ?_
 refine .v hws (.fieldAddr fd91_1 rfl) ?_
 refine .v hws (.loadBox on70 rfl bsp rfl) ?_
 refine .v hws (.move rfl) ?_
 refine .v hws (.addE (((k + 1 : Nat) : Int)) rfl rfl (by omega) (by omega)) ?_
 refine .v hws (.sliceFr (CutS.row 2 rfl) sl70 rfl rfl (by omega)) ?_
 refine SK.nil (SK.fin hws ?_)
 refine AK.copyIn 2 (a := (lo + (rs.getD i ([], [])).2.length)) (b := k + 1) rfl sl70 rfl rfl (by omega) (one_i32 _) trivial rfl ?_
 refine .nt hK7 ?_
 refine .seq fun _ hK8 => ?_
 refine AK.stillTail 15 mixed krf (fun _ hws => ?_)
 refine .v hws (.move rfl) ?_
 refine .v hws (.move rfl) ?_
 refine .v hws (.nilCheck rfl) ?_
 refine .v hws (.fieldAddr fd91_0 rfl) ?_
 refine .v hws (.loadBox on78 rfl bsp rfl) ?_
 refine .v hws (.move rfl) ?_
 refine .v hws (.nilCheck rfl) ?_
 refine .v hws (.fieldAddr fd91_0 rfl) ?_
 refine .v hws (.loadBox on78 rfl bsp rfl) ?_
 refine .v hws (.lenR sl78 rfl (by first | exact rdp | exact (RdS.ownZ 1 rfl))) ?_
 refine .v hws (.move rfl) ?_
 refine .v hws (.subE ((((T.length - sh) : Nat) : Int)) rfl rfl (by omega) (by omega)) ?_
 refine .v hws (.sliceToC (CutS.rowZ 1 rfl) sl78 rfl rfl (by omega)) ?_
 refine .v hws (.nilCheck rfl) ?_
 refine .v hws (.fieldAddr fd91_0 rfl) ?_
 refine SK.nil (SK.fin hws ?_)
 refine AK.storeBox 0 (us := [(slTo vl (T.length - sh))]) (cs' := [(slTo vl (T.length - sh)), vs]) rfl sz78 rfl rfl (by rw [show slTo vl ((((T.length - sh) : Nat) : Int).toNat) = (slTo vl (T.length - sh)) from rfl, svl2.cells]) rfl oneP (Nat.le_of_ble_eq_true rfl) rfl trivial ?_
 refine AK.resliceZE 1 (T.length - sh) ((cpy' T (lo + (rs.getD i ([], [])).2.length) (k + 1)).map byv) rfl (by omega) (cpy_cut _ _ (by omega) (by omega) (by omega)) ?_
 refine .nt hK8 ?_
 refine .seq fun _ hK9 => ?_
 refine AK.stillTail 15 mixed krf (fun _ hws => ?_)
 refine .v hws (.move rfl) ?_
 refine .v hws (.move rfl) ?_
 refine .v hws (.nilCheck rfl) ?_
 refine .v hws (.fieldAddr fd91_1 rfl) ?_
 refine .v hws (.loadBox on70 rfl bsp rfl) ?_
 refine .v hws (.move rfl) ?_
 refine .v hws (.nilCheck rfl) ?_
 refine .v hws (.fieldAddr fd91_1 rfl) ?_
 refine .v hws (.loadBox on70 rfl bsp rfl) ?_
 refine .v hws (.lenR sl70 rfl (by first | exact rdp | exact (RdS.ownZ 1 rfl))) ?_
 refine .v hws (.move rfl) ?_
 refine .v hws (.subE ((((T.length - sh) : Nat) : Int)) rfl rfl (by omega) (by omega)) ?_
 refine .v hws (.sliceToC (CutS.row 2 rfl) sl70 rfl rfl (by omega)) ?_
 refine .v hws (.nilCheck rfl) ?_
 refine .v hws (.fieldAddr fd91_1 rfl) ?_
 refine SK.nil (SK.fin hws ?_)
 refine AK.storeBox 0 (us := [(slTo vs (T.length - sh))]) (cs' := [(slTo vl (T.length - sh)), (slTo vs (T.length - sh))]) rfl sz70 rfl rfl (by rw [show slTo vs ((((T.length - sh) : Nat) : Int).toNat) = (slTo vs (T.length - sh)) from rfl, svs2.cells]) rfl oneP (Nat.le_of_ble_eq_true rfl) rfl trivial ?_
 refine AK.resliceE 2 (T.length - sh) ((cpy' R (lo + (rs.getD i ([], [])).2.length) (k + 1)).map (Value.int .i32)) rfl (by omega) (cpy_cut _ _ (by omega) (by omega) (by omega)) ?_
 refine .nt hK9 ?_
 refine .seq fun _ hK10 => ?_
 refine .sr fun _ hK11 => ?_
 refine .v (.fieldAddr fd41_1 rfl) ?_
 refine .v (.loadBox on9 rfl bsp rfl) ?_
 refine .v (.lenS un9 rfl) ?_
 refine .mv rfl (.nt hK11 (.block ?_))
 refine AK.loopK (X := Nat) [(1, _), (3, _), (7, _), (8, _), (9, _), (108, _)] (fun x => [(109, .int .i64 (x : Int))]) (fun x => [box bt 91 2 [(slTo vl (T.length - sh)), (slTo vs (T.length - sh))], rowZ (slTo vl (T.length - sh)) 5 (T.length - sh) ((wrT T (rs.getD i ([], [])).2 (lo + (rs.getD i ([], [])).2.length) (k + 1) x).map byv), row (slTo vs (T.length - sh)) 21 1 (T.length - sh) ((cpy' R (lo + (rs.getD i ([], [])).2.length) (k + 1)).map (Value.int .i32)), box bx3 62 2 [v, .pointer (some ⟨bf, 0, none⟩)], box bx7 41 2 (rcs (rs.getD i ([], [])))]) (fun x => x ≤ (rs.getD i ([], [])).2.length) (fun x => (rs.getD i ([], [])).2.length - x) (0) slr ?_ ?_ ?_ ?_
 ·exact Nat.zero_le _
 ·exact slr
 ·exact fun w hw => by have e : cpy' T (lo + (rs.getD i ([], [])).2.length) (k + 1) = (wrT T (rs.getD i ([], [])).2 (lo + (rs.getD i ([], [])).2.length) (k + 1) 0) := (by simp [cpy', wrT]); rw [← e]; exact hw
 ·intro x hg0 _ hK12
  refine .sr fun _ hK13 => ?_
  refine .v (.lss rfl rfl) ?_
  refine .nt hK13 ?_
  refine .seq fun _ hK14 => ?_
  refine AK.condD rfl (fun hc0 => ?_) (fun hc0 => ?_)
  ·refine .skip ?_
   refine AK.then_ (hK14 _ ?_)
   refine .seq fun _ hK15 => ?_
   refine .block ?_
   refine .sr fun _ hK16 => ?_
   refine .mv rfl (.as rfl (.nt hK16 ?_))
   refine AK.stillTail 13 mixed krf (fun _ hws => ?_)
   refine .v hws (.move rfl) ?_
   refine .v hws (.nilCheck rfl) ?_
   refine .v hws (.fieldAddr fd91_0 rfl) ?_
   refine .v hws (.loadBox on78 rfl bsp rfl) ?_
   refine .v hws (.move rfl) ?_
   refine .v hws (.sub rfl rfl (by omega)) ?_
   refine .v hws (.move rfl) ?_
   refine .v hws (.subE ((((lo + (rs.getD i ([], [])).2.length) - 1 - x : Nat) : Int)) rfl rfl (by omega) (by omega)) ?_
   refine .v hws (.fieldAddr fd41_1 rfl) ?_
   refine .v hws (.loadBox on9 rfl bsp rfl) ?_
   refine .v hws (.move rfl) ?_
   first | refine .v hws (.idxSN un9 rfl rfl (by omega)) ?_ | refine .v hws (.idxS un9 rfl rfl (by omega)) ?_
   first | refine .v hws (.iN sl78 rfl rfl (hr := (by first | exact rdp | exact (RdS.ownZ 1 rfl)))) ?_ | refine .v hws (.iK sl78 rfl rfl (hr := (by first | exact rdp | exact (RdS.ownZ 1 rfl)))) ?_
   refine SK.nil (SK.fin hws ?_)
   refine AK.storeZ 1 (cs' := (wrT T (rs.getD i ([], [])).2 (lo + (rs.getD i ([], [])).2.length) (k + 1) (x + 1)).map byv) rfl sz5 rfl rfl rfl rfl (by omega) (wrT_next (by omega) (by omega) (by omega)) trivial ?_
   refine .nil (.block_normal ?_)
   refine AK.then_ (hK15 _ ?_)
   refine AK.region ?_
   refine .v (.add rfl rfl (by omega)) ?_
   refine .mv rfl (.nil ?_)
   refine AK.then_ (hK12 _ _ (x + 1) (by omega) (by omega) (slr) (fun w hw => hw))
  ·refine .exit (.then_exit (.then_exit (.block_exit ?_)))
   refine AK.then_ (hK10 _ ?_)
   refine .sr fun _ hK17 => ?_
   refine .v (.loadBoxG ag62 rfl bsp rfl rfl) ?_
   refine .mv rfl (.mv rfl (.mv rfl ?_))
   have hx : x = (rs.getD i ([], [])).2.length := by omega
   refine AK.own' [bigA [box bt 91 2 [(slTo vl (T.length - sh)), (slTo vs (T.length - sh))], rowZ (slTo vl (T.length - sh)) 5 (newT T k (rs.getD i ([], []))).length ((newT T k (rs.getD i ([], []))).map byv), row (slTo vs (T.length - sh)) 21 1 (newT T k (rs.getD i ([], []))).length ((cpy' R (lo + (rs.getD i ([], [])).2.length) (k + 1)).map (Value.int .i32))], box bx3 62 2 [v, .pointer (some ⟨bf, 0, none⟩)], box bx7 41 2 (rcs (rs.getD i ([], [])))] (fun w hw => by rw [hlen, show (newT T k (rs.getD i ([], []))) = (wrT T (rs.getD i ([], [])).2 (lo + (rs.getD i ([], [])).2.length) (k + 1) x) from (by unfold newT wrT; rw [hx, List.take_length, hlo', Nat.add_sub_cancel])]; exact HW.unflat (l := [_, _, _]) (own := [_, _]) hw) ?_
   refine AK.callN 0 rfl co54 rfl (fun w Fs hw hh hfr hal => s_read w (Fs 0) bt lo (lo + (rs.getD i ([], [])).2.length) (slTo vl (T.length - sh)) (slTo vs (T.length - sh)) (newT T k (rs.getD i ([], []))) (cpy' R (lo + (rs.getD i ([], [])).2.length) (k + 1)) bf v vn vf ps N fl fd hF hN (hbf.off nbf hfr) (not_Fs hbf nbf hal) (Rd.off hvn hfr hal) (Rd.off hvf hfr hal) hsv (newT_al hT hAl2) (by omega) (by omega) (by omega) (by omega) (fun j hj => by have h1 := hok j (by omega); rw [cpy_lo (by omega) (by omega)]; unfold StA at h1 ⊢; rw [newT_lo hk (by omega)]; exact h1) (by have := sure_hc hF hR hok hk hsf hlr; rw [hlo'] at this; exact this) (hh.at_ 0 _ rfl)) trivial rfl ?_
   rintro r A o ⟨R', z, hok', hR', he', rfl, rfl, rfl⟩
   refine AK.flat0 rfl ?_
   refine .as rfl (.nt hK17 (.ret ?_))
   refine AK.ret1 rfl rfl (fun w hw => ⟨_, _, _, ?_, rfl, Ret.ofBig0 (hw.pick [0, 1, 2] (by decide) rfl rfl)⟩)
   refine ⟨(slTo vl (T.length - sh)), (slTo vs (T.length - sh)), R', z, svl2, svs2, hok', hR', ?_, rfl, rfl, rfl⟩
   obtain ⟨e, he1, he2, he3⟩ := he'
   refine ⟨e, he1, he2, fun j h1 h2 => ?_⟩
   obtain ⟨h3, h4⟩ := he3 j h1 h2
   refine ⟨by omega, ?_⟩
   rw [h4, cpy_hi (by omega) (by omega) (by omega)]
   congr 1; omega

end Go.Proofs.Ytaeojcaidcjnaaa
