import Derived.Test.YtaeojcaidcjnaaaXW3
import Derived.Test.YtaeojcaidcjnaaaXE7
import Derived.Test.YtaeojcaidcjnaaaXRR
set_option linter.unusedVariables false
set_option linter.unusedSimpArgs false
namespace Go.Proofs.Ytaeojcaidcjnaaa
open Go.Sx Go.RowKit
set_option maxHeartbeats 1000000 in
set_option maxRecDepth 100000 in
theorem s_newreducer (w : World) (v : Value) (rs : List Rul) (h : RdR (fun _ => False) w v rs) (hll : ∀ k, k < rs.length → (rs.getD k ([], [])).1.length ≤ 9223372036854775807 ∧ (rs.getD k ([], [])).2.length ≤ 9223372036854775807) (L m : Int) (hV : VR L rs) : CallS Try.prog 38 [v, .int .i64 m] w (fun r o => ∃ (bf : Nat) (vn vf : Value) (N : List Wrd) (fl fd : List Int), FinOK (pats m rs) N fl fd ∧ N.length ≤ 4200000 ∧ r = .agg #[v, .pointer (some ⟨bf, 0, none⟩)] ∧ o = [box bf 72 2 [vn, vf], row vn 73 6 N.length (fl.map (Value.int .i32)), row vf 21 1 N.length (fd.map (Value.int .i32))]) := by
 have h0 := h
 have hb := h.len
 have sv0 := Rd.sl h
 unfold RdR at h
 have hn0 := hV.n
 refine spec_of Try.func38 rfl (Nat.le_of_ble_eq_true rfl) ?_
 refine .sr fun _ hK1 => ?_
 refine AK.alloc el62 rfl rfl trivial rfl (fun bx4 => ?_)
 refine .nt hK1 ?_
 refine .sr fun _ hK2 => ?_
 refine .mv rfl ?_
 refine .v (.lenR sl22 rfl rdp) ?_
 refine AK.make1 (n := rs.length) sl53 el9 rfl rfl rfl (by omega) (by omega) trivial rfl (fun mv => ?_)
 refine .as rfl (.nt hK2 ?_)
 refine .seq fun _ hK3 => ?_
 refine .sr fun _ hK4 => ?_
 refine .mv rfl ?_
 refine .v (.lenR sl22 rfl rdp) ?_
 refine .mv rfl (.nt hK4 (.block ?_))
 refine AK.loopK (X := Nat) [(0, _), (1, _), (4, _), (5, _), (11, _), (12, _)] (fun k => [(13, .int .i64 (k : Int))]) (fun k => [box bx4 62 2 [.slice none 0 0, .pointer none], row mv 9 1 rs.length (((pats m rs).take (k) ++ List.replicate (rs.length - (k)) []).map sv)]) (fun k => k ≤ rs.length) (fun k => rs.length - k) (0) slr ?_ ?_ ?_ ?_
 ·exact Nat.zero_le _
 ·exact slr
 ·exact fun w hw => by have e : (((pats m rs).take (0) ++ List.replicate (rs.length - (0)) []).map sv) = List.replicate rs.length (sv []) := (by simp); rw [e]; exact hw
 ·intro k hg0 _ hK5
  refine .sr fun _ hK6 => ?_
  refine .v (.lss rfl rfl) ?_
  refine .nt hK6 ?_
  refine .seq fun _ hK7 => ?_
  refine AK.condD rfl (fun hc0 => ?_) (fun hc0 => ?_)
  ·have hl1 := (hll k (by omega)).1
   refine .skip ?_
   refine AK.then_ (hK7 _ ?_)
   refine .seq fun _ hK8 => ?_
   refine .block ?_
   refine .sr fun _ hK9 => ?_
   refine .mv rfl ?_
   first | refine .v (.iN sl22 rfl rfl) ?_ | refine .v (.iK sl22 rfl rfl) ?_
   refine .v (.loadRu ag41 rfl rdp (by omega)) ?_
   refine AK.alloc el41 rfl rfl trivial rfl (fun bx7 => ?_)
   refine .as rfl ?_
   refine AK.storeBox 2 (us := rcs (rs.getD k ([], []))) (cs' := rcs (rs.getD k ([], []))) rfl sz41 rfl rfl rfl rfl oneP (Nat.le_of_ble_eq_true rfl) rfl trivial ?_
   refine .nt hK9 ?_
   refine .sr fun _ hK10 => ?_
   refine .v (.fieldAddr fd41_0 rfl) ?_
   refine .v (.loadBox on9 rfl bsp rfl) ?_
   refine .v (.lenS un9 rfl) ?_
   refine .mv rfl ?_
   refine .v (.leq rfl rfl) ?_
   refine .nt hK10 ?_
   refine AK.condD rfl (fun hc1 => ?_) (fun hc1 => ?_)
   ·refine AK.region ?_
    refine .mv rfl (.mv rfl ?_)
    refine .v (.fieldAddr fd41_0 rfl) ?_
    refine .v (.loadBox on9 rfl bsp rfl) ?_
    refine AK.call co53 rfl (fun w hw => s_reverse w (rs.getD k ([], [])).1 hl1) trivial rfl ?_
    rintro r o ⟨rfl, rfl⟩
    first | refine .v (.iN sl53 rfl rfl) ?_ | refine .v (.iK sl53 rfl rfl) ?_
    refine AK.store1e 1 rfl sz9 rfl rfl rfl rfl (by omega) (cs' := (((pats m rs).take (k + 1) ++ List.replicate (rs.length - (k + 1)) []).map sv)) (by rw [pats_fill m rs k (by omega), show patR m (rs.getD k ([], [])) = (rs.getD k ([], [])).1.reverse from if_pos hc1]; exact fill_set sv _ [] _ rs.length k (by rw [List.length_take, pats_len]; omega) (by omega)) trivial ?_
    refine .nil (.block_normal ?_)
    refine AK.then_ (hK8 _ ?_)
    refine AK.region ?_
    refine .v (.add rfl rfl (by omega)) ?_
    refine .mv rfl (.nil ?_)
    first | refine AK.then_ (hK5 _ _ (k + 1) (by omega) (by omega) (slr) (fun w hw => hw.pick [0, 1] (by decide) rfl rfl)) | refine AK.then_ (hK5 _ _ (k + 1) (by omega) (by omega) (slr) (fun w hw => by have e : (((pats m rs).take (k) ++ List.replicate (rs.length - (k)) []).map sv) = (((pats m rs).take (k + 1) ++ List.replicate (rs.length - (k + 1)) []).map sv) := (by rw [pats_fill m rs k (by omega)]; exact congrArg (List.map sv) (fill_skip (if_neg (by assumption)) (by omega))); rw [← e]; exact hw.pick [0, 1] (by decide) rfl rfl))
   ·refine .skip (.block_normal ?_)
    refine AK.then_ (hK8 _ ?_)
    refine AK.region ?_
    refine .v (.add rfl rfl (by omega)) ?_
    refine .mv rfl (.nil ?_)
    first | refine AK.then_ (hK5 _ _ (k + 1) (by omega) (by omega) (slr) (fun w hw => hw.pick [0, 1] (by decide) rfl rfl)) | refine AK.then_ (hK5 _ _ (k + 1) (by omega) (by omega) (slr) (fun w hw => by have e : (((pats m rs).take (k) ++ List.replicate (rs.length - (k)) []).map sv) = (((pats m rs).take (k + 1) ++ List.replicate (rs.length - (k + 1)) []).map sv) := (by rw [pats_fill m rs k (by omega)]; exact congrArg (List.map sv) (fill_skip (if_neg (by assumption)) (by omega))); rw [← e]; exact hw.pick [0, 1] (by decide) rfl rfl))
  ·refine .exit (.then_exit (.then_exit (.block_exit ?_)))
   refine AK.then_ (hK3 _ ?_)
   refine .sr fun _ hK11 => ?_
   refine .mv rfl (.mv rfl ?_)
   refine AK.call co42 rfl (fun w hw => s_newfinder w mv (pats m rs) (RdL.ownE 1 hw rfl (by rw [pats_len]) (by rw [show k = rs.length by omega, Nat.sub_self, List.replicate_zero, List.append_nil, ← pats_len m rs, List.take_length])) (al_pats hV) (by rw [pats_len]; omega)) trivial rfl ?_
   rintro r o ⟨bf, vn, vf, N, fl, fd, hF, hN, _, rfl, rfl⟩
   refine .v (.build (parts := [(0, .tmp 30), (1, .tmp 32)]) (cs := #[v, .pointer (some ⟨bf, 0, none⟩)]) rfl (by obtain ⟨_, _, _, rfl⟩ := sv0; kernel_rfl)) ?_
   refine AK.storeBox 0 (us := [v, .pointer (some ⟨bf, 0, none⟩)]) (cs' := [v, .pointer (some ⟨bf, 0, none⟩)]) rfl sz62 rfl rfl rfl rfl oneP (Nat.le_of_ble_eq_true rfl) rfl trivial ?_
   refine .nt hK11 (.ret ?_)
   refine AK.retG [.cell 4 62] rfl (.cons (.cell ag62 rfl bsp rfl rfl) (.nil)) (fun w hw => ⟨_, _, ?_, rfl, Ret.of (hw.pick [2, 3, 4] (by decide) rfl rfl)⟩)
   exact ⟨bf, vn, vf, N, fl, fd, hF, hN, rfl, rfl⟩

end Go.Proofs.Ytaeojcaidcjnaaa
