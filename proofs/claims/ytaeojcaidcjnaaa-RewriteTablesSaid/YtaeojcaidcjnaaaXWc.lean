import Derived.Test.YtaeojcaidcjnaaaXWb
import Derived.Test.YtaeojcaidcjnaaaXE5
import Derived.Test.YtaeojcaidcjnaaaXRR
set_option linter.unusedVariables false
set_option linter.unusedSimpArgs false
namespace Go.Proofs.Ytaeojcaidcjnaaa
open Go.Sx Go.RowKit
set_option maxHeartbeats 4000000 in
set_option maxRecDepth 100000 in
theorem s_irred (w : World) (v : Value) (rs : List Rul) (h : RdR (fun _ => False) w v rs) (hll : ∀ k, k < rs.length → (rs.getD k ([], [])).1.length ≤ 9223372036854775807 ∧ (rs.getD k ([], [])).2.length ≤ 9223372036854775807) (L : Int) : CallS Try.prog 23 [v, .int .i64 L] w (fun r o => ∃ (d : Dfa) (e : Int) (vF vN : Value) (ws : List Value), IrrP L rs d e ∧ r = .tuple #[.agg #[.int .i64 d.L, .int .i64 d.s, vF, vN], .int .i64 e] ∧ ws.length = d.nx.length ∧ IsSl vF ∧ IsSl vN ∧ o = dfaO 4 3 74 vF vN ws d) := by
 have h0 := h
 have hb := h.len
 have sv0 := Rd.sl h
 unfold RdR at h
 refine spec_of Try.func23 rfl (Nat.le_of_ble_eq_true rfl) ?_
 refine .sr fun _ hK1 => ?_
 refine AK.alloc el36 rfl rfl trivial rfl (fun bx4 => ?_)
 refine .as rfl (.nt hK1 ?_)
 refine .seq fun _ hK2 => ?_
 refine .sr fun _ hK3 => ?_
 refine .mv rfl (.mv rfl ?_)
 refine AK.call co13 rfl (fun w hw => s_rval w v rs (h0.at hw) hll L) trivial rfl ?_
 rintro r o ⟨rfl, rfl⟩
 refine .as rfl (.nt hK3 ?_)
 refine .sr fun _ hK4 => ?_
 refine .mv rfl ?_
 refine .v (.neq rfl rfl) ?_
 refine .nt hK4 ?_
 refine AK.condNe rfl (fun hc0 => ?_) (fun hc0 => ?_)
 ·refine .sr fun _ hK5 => ?_
  refine .v (.build (parts := []) (cs := #[.int .i64 0, .int .i64 0, .slice none 0 0, .slice none 0 0]) rfl (by kernel_rfl)) ?_
  refine .mv rfl ?_
  refine AK.storeBox 0 (us := [.int .i64 0, .int .i64 0, .slice none 0 0, .slice none 0 0]) (cs' := [.int .i64 0, .int .i64 0, .slice none 0 0, .slice none 0 0]) rfl sz36 rfl rfl rfl rfl oneP (Nat.le_of_ble_eq_true rfl) rfl trivial ?_
  refine .as rfl (.nt hK5 (.ret (.then_ret ?_)))
  refine AK.own' (dfaO 4 3 74 (.slice none 0 0) (.slice none 0 0) [] nilD ++ [box bx4 36 4 [.int .i64 0, .int .i64 0, .slice none 0 0, .slice none 0 0]]) (fun w hw => by have h1 := (((hw.pick [0] (by decide) rfl rfl).ghost 4 1).ghost 74 1).ghostG (f := Value.int .i64) 3; exact h1.pick [1, 2, 3, 0] (by decide) rfl rfl) ?_
  refine AK.retG [.cell 4 36, .tmp 5] rfl (.cons (.cell ag36 rfl bsp rfl rfl) (.cons (.tmp rfl) (.nil))) (fun w hw => ⟨_, _, ?_, rfl, Ret.of (hw.pick [0, 1, 2] (by decide) rfl rfl)⟩)
  exact ⟨nilD, _, _, _, [], .inl ⟨hc0, rfl, rfl⟩, rfl, rfl, nilSl, nilSl, rfl⟩
 ·have hE : errR L rs = 0 := (by omega)
  have hV := errR_iff.1 hE
  have hLL := hV.l
  have hrn := hV.n
  have hal := al_lfs hV
  have htb := tot_le hal rs.length (by rw [lfs_len]; exact Nat.le_refl _)
  refine .skip ?_
  refine AK.then_ (hK2 _ ?_)
  refine .sr fun _ hK6 => ?_
  refine .as rfl (.nt hK6 ?_)
  refine .sr fun _ hK7 => ?_
  refine .mv rfl ?_
  refine .v (.lenR sl22 rfl rdp) ?_
  refine AK.make1 (n := rs.length) sl53 el9 rfl rfl rfl (by omega) (by omega) trivial rfl (fun mv => ?_)
  refine .as rfl (.nt hK7 ?_)
  refine .seq fun _ hK8 => ?_
  refine .sr fun _ hK9 => ?_
  refine .mv rfl ?_
  refine .v (.lenR sl22 rfl rdp) ?_
  refine .mv rfl (.nt hK9 (.block ?_))
  refine AK.loopK (X := Nat) [(1, _), (4, _), (8, _), (27, _), (28, _)] (fun k => [(7, .int .i64 ((tot (lfs rs) k : Nat) : Int)), (29, .int .i64 (k : Int))]) (fun k => [box bx4 36 4 [.int .i64 0, .int .i64 0, .slice none 0 0, .slice none 0 0], row mv 9 1 rs.length (((lfs rs).take (k) ++ List.replicate (rs.length - (k)) []).map sv)]) (fun k => k ≤ rs.length) (fun k => rs.length - k) (0) slr ?_ ?_ ?_ ?_
  ·exact Nat.zero_le _
  ·exact slr
  ·exact fun w hw => by have e : (((lfs rs).take (0) ++ List.replicate (rs.length - (0)) []).map sv) = List.replicate rs.length (sv []) := (by simp); rw [e]; exact hw
  ·intro k hg0 _ hK10
   refine .sr fun _ hK11 => ?_
   refine .v (.lss rfl rfl) ?_
   refine .nt hK11 ?_
   refine .seq fun _ hK12 => ?_
   refine AK.condD rfl (fun hc1 => ?_) (fun hc1 => ?_)
   ·have hts : tot (lfs rs) (k + 1) = tot (lfs rs) k + (rs.getD k ([], [])).1.length := (by show tot (lfs rs) k + _ = _; rw [lfs_get rs (by omega)])
    have htm := tot_mono (lfs rs) (k + 1) (rs.length - (k + 1))
    rw [show k + 1 + (rs.length - (k + 1)) = rs.length by omega] at htm
    refine .skip ?_
    refine AK.then_ (hK12 _ ?_)
    refine .seq fun _ hK13 => ?_
    refine .block ?_
    refine .sr fun _ hK14 => ?_
    refine .mv rfl ?_
    first | refine .v (.iN sl22 rfl rfl) ?_ | refine .v (.iK sl22 rfl rfl) ?_
    refine .v (.loadRu ag41 rfl rdp (by omega)) ?_
    refine AK.alloc el41 rfl rfl trivial rfl (fun bx10 => ?_)
    refine .as rfl ?_
    refine AK.storeBox 2 (us := rcs (rs.getD k ([], []))) (cs' := rcs (rs.getD k ([], []))) rfl sz41 rfl rfl rfl rfl oneP (Nat.le_of_ble_eq_true rfl) rfl trivial ?_
    refine .nt hK14 ?_
    refine .sr fun _ hK15 => ?_
    refine .mv rfl ?_
    refine .v (.fieldAddr fd41_0 rfl) ?_
    refine .v (.loadBox on9 rfl bsp rfl) ?_
    refine .v (.lenS un9 rfl) ?_
    refine AK.val (.int .i64 ((tot (lfs rs) (k + 1) : Nat) : Int)) (Yl.valE (Yl.add rfl rfl (by omega)) (congrArg (Value.int .i64) (by rw [hts]; omega))) trivial rfl ?_
    refine .as rfl (.nt hK15 ?_)
    refine AK.region ?_
    refine .mv rfl (.mv rfl ?_)
    refine .v (.fieldAddr fd41_0 rfl) ?_
    refine .v (.loadBox on9 rfl bsp rfl) ?_
    first | refine .v (.iN sl53 rfl rfl) ?_ | refine .v (.iK sl53 rfl rfl) ?_
    refine AK.store1e 1 rfl sz9 rfl rfl rfl rfl (by omega) (cs' := (((lfs rs).take (k + 1) ++ List.replicate (rs.length - (k + 1)) []).map sv)) (by exact lfs_fill (by omega)) trivial ?_
    refine .nil (.block_normal ?_)
    refine AK.then_ (hK13 _ ?_)
    refine AK.region ?_
    refine .v (.add rfl rfl (by omega)) ?_
    refine .mv rfl (.nil ?_)
    refine AK.then_ (hK10 _ _ (k + 1) (by omega) (by omega) (slr) (fun w hw => hw.pick [0, 1] (by decide) rfl rfl))
   ·have hk : k = rs.length := (by omega)
    rw [hk]
    refine AK.own' [box bx4 36 4 [.int .i64 0, .int .i64 0, .slice none 0 0, .slice none 0 0], row mv 9 1 rs.length ((lfs rs).map sv)] (fun w hw => by rw [Nat.sub_self, List.replicate_zero, List.append_nil, show List.take rs.length (lfs rs) = lfs rs from List.take_of_length_le (by rw [lfs_len]; exact Nat.le_refl _)] at hw; exact hw) ?_
    refine .exit (.then_exit (.then_exit (.block_exit ?_)))
    refine AK.then_ (hK8 _ ?_)
    refine .seq fun _ hK16 => ?_
    refine .sr fun _ hK17 => ?_
    refine .mv rfl ?_
    refine .v (.gtr rfl rfl) ?_
    refine .nt hK17 ?_
    refine AK.condD rfl (fun hc2 => ?_) (fun hc2 => ?_)
    ·refine .sr fun _ hK18 => ?_
     refine .v (.build (parts := []) (cs := #[.int .i64 0, .int .i64 0, .slice none 0 0, .slice none 0 0]) rfl (by kernel_rfl)) ?_
     refine AK.storeBox 0 (us := [.int .i64 0, .int .i64 0, .slice none 0 0, .slice none 0 0]) (cs' := [.int .i64 0, .int .i64 0, .slice none 0 0, .slice none 0 0]) rfl sz36 rfl rfl rfl rfl oneP (Nat.le_of_ble_eq_true rfl) rfl trivial ?_
     refine .as rfl (.nt hK18 (.ret (.then_ret ?_)))
     refine AK.own' (dfaO 4 3 74 (.slice none 0 0) (.slice none 0 0) [] nilD ++ [box bx4 36 4 [.int .i64 0, .int .i64 0, .slice none 0 0, .slice none 0 0]]) (fun w hw => by have h1 := (((hw.pick [0] (by decide) rfl rfl).ghost 4 1).ghost 74 1).ghostG (f := Value.int .i64) 3; exact h1.pick [1, 2, 3, 0] (by decide) rfl rfl) ?_
     refine AK.retG [.cell 4 36, .tmp 5] rfl (.cons (.cell ag36 rfl bsp rfl rfl) (.cons (.tmp rfl) (.nil))) (fun w hw => ⟨_, _, ?_, rfl, Ret.of (hw.pick [0, 1, 2] (by decide) rfl rfl)⟩)
     exact ⟨nilD, _, _, _, [], .inr (.inl ⟨hE, by omega, rfl, rfl⟩), rfl, rfl, nilSl, nilSl, rfl⟩
    ·refine .skip ?_
     refine AK.then_ (hK16 _ ?_)
     refine .sr fun _ hK19 => ?_
     refine .mv rfl ?_
     refine AK.call co42 rfl (fun w hw => s_newfinder w mv (lfs rs) (RdL.ownE 1 hw rfl (lfs_len rs).symm rfl) (al_lfs hV) (by rw [lfs_len]; exact hV.n)) trivial rfl ?_
     rintro r o ⟨bf, vn, vf, N, fl, fd, hF, hN, hNt, rfl, rfl⟩
     rw [lfs_len] at hNt
     have hfdl := hF.fdl
     have hfll := hF.fll
     have hN5 : N.length ≤ 512 := by omega
     have hvd := finD_vd hF hV.l hN5
     have hnl := finD_nx L fl fd
     have hfl2 := finD_len L fl fd
     refine .as rfl (.nt hK19 ?_)
     refine .sr fun _ hK20 => ?_
     refine .mv rfl ?_
     refine .v (.build (parts := [(0, .tmp 50)]) (cs := #[.int .i64 L, .int .i64 0, .slice none 0 0, .slice none 0 0]) rfl (by kernel_rfl)) ?_
     refine AK.alloc el36 rfl rfl trivial rfl (fun bx12 => ?_)
     refine AK.storeBox 5 (us := [.int .i64 L, .int .i64 0, .slice none 0 0, .slice none 0 0]) (cs' := [.int .i64 L, .int .i64 0, .slice none 0 0, .slice none 0 0]) rfl sz36 rfl rfl rfl rfl oneP (Nat.le_of_ble_eq_true rfl) rfl trivial ?_
     refine .nt hK20 ?_
     refine .seq fun _ hK21 => ?_
     refine .sr fun _ hK22 => ?_
     refine .mv rfl ?_
     refine .v (.nilCheck rfl) ?_
     refine .v (.fieldAddr fd72_0 rfl) ?_
     refine .v (.loadBox on69 rfl bsp rfl) ?_
     refine .v (.lenR sl69 rfl rdp) ?_
     refine .mv rfl (.nt hK22 (.block ?_))
     refine AK.loopK (X := Nat × Value × Value × List Value) [(1, _), (4, _), (11, _), (12, _), (55, _), (56, _)] (fun x => [(57, .int .i64 (x.1 : Int))]) (fun x => [box bx4 36 4 [.int .i64 0, .int .i64 0, .slice none 0 0, .slice none 0 0], row mv 9 1 rs.length ((lfs rs).map sv), box bf 72 2 [vn, vf], row vn 73 6 N.length (fl.map (Value.int .i32)), row vf 21 1 N.length (fd.map (Value.int .i32)), box bx12 36 4 [.int .i64 L, .int .i64 0, x.2.1, x.2.2.1], row x.2.1 4 1 x.1 (((finD L fl fd).fin.take x.1).map Value.bool), row x.2.2.1 74 1 x.1 x.2.2.2, bigA (matG (Value.int .i64) 3 x.2.2.2 ((finD L fl fd).nx.take x.1))]) (fun x => x.1 ≤ N.length ∧ x.2.2.2.length = x.1 ∧ IsSl x.2.1 ∧ IsSl x.2.2.1) (fun x => N.length - x.1) ((0, .slice none 0 0, .slice none 0 0, [])) slr ?_ ?_ ?_ ?_
     ·exact ⟨Nat.zero_le _, rfl, nilSl, nilSl⟩
     ·exact slr
     ·exact fun w hw => by have h1 := ((hw.ghost 4 1).ghost 74 1).ghostG (f := Value.int .i64) 3; exact h1
     ·intro x hg1 _ hK23
      have hsF := hg1.2.2.1
      have hsN := hg1.2.2.2
      refine .sr fun _ hK24 => ?_
      refine .v (.lss rfl rfl) ?_
      refine .nt hK24 ?_
      refine .seq fun _ hK25 => ?_
      refine AK.condD rfl (fun hc3 => ?_) (fun hc3 => ?_)
      ·have hgo : ∀ q, q < 6 → ∀ z, z = fl.getD (x.1 * 6 + q) 0 → 0 ≤ z ∧ z < N.length := fun c hc z hz => by obtain ⟨t, e, h1, _⟩ := hF.go x.1 (by omega) c hc; omega
       refine .skip ?_
       refine AK.then_ (hK25 _ ?_)
       refine .seq fun _ hK26 => ?_
       refine .block ?_
       refine .sr fun _ hK27 => ?_
       refine .mv rfl ?_
       first | refine .v (.iN sl69 rfl rfl) ?_ | refine .v (.iK sl69 rfl rfl) ?_
       refine .v (.loadG ag73 rfl rdp (by omega)) ?_
       refine AK.alloc el73 rfl rfl trivial rfl (fun bx14 => ?_)
       refine .as rfl ?_
       refine AK.storeBox 9 (us := c6 fl x.1) (cs' := c6 fl x.1) rfl sz73 rfl rfl rfl (c6_len (by omega)) (c6_one fl x.1) (by rw [c6_len (by omega)]; exact Nat.le_refl _) (spl_whole (c6_len (by omega))) trivial ?_
       refine .nt hK27 ?_
       refine .sr fun _ hK28 => ?_
       refine .mv rfl ?_
       refine AK.make1Z sl74 el3 rfl rfl rfl (by omega) (by omega) (by omega) trivial rfl (fun mv1 => ?_)
       refine AK.shape 10 rfl (fun smv1 => ?_)
       refine .as rfl (.nt hK28 ?_)
       refine .seq fun _ hK29 => ?_
       refine .sr fun _ hK30 => ?_
       refine .mv rfl ?_
       refine .v (.lenR sl74 rfl rdp) ?_
       refine .mv rfl (.nt hK30 (.block ?_))
       refine AK.loopK (X := Nat) [(1, _), (4, _), (11, _), (12, _), (13, _), (14, _), (15, _), (55, _), (56, _), (57, _), (65, _)] (fun y => [(66, .int .i64 (y : Int))]) (fun y => [box bx4 36 4 [.int .i64 0, .int .i64 0, .slice none 0 0, .slice none 0 0], row mv 9 1 rs.length ((lfs rs).map sv), box bf 72 2 [vn, vf], row vn 73 6 N.length (fl.map (Value.int .i32)), row vf 21 1 N.length (fd.map (Value.int .i32)), box bx12 36 4 [.int .i64 L, .int .i64 0, x.2.1, x.2.2.1], row x.2.1 4 1 x.1 (((finD L fl fd).fin.take x.1).map Value.bool), row x.2.2.1 74 1 x.1 x.2.2.2, bigA (matG (Value.int .i64) 3 x.2.2.2 ((finD L fl fd).nx.take x.1)), box bx14 73 6 (c6 fl x.1), row mv1 3 1 L.toNat (((finR L fl fd x.1).take (y) ++ List.replicate (L.toNat - (y)) 0).map (Value.int .i64))]) (fun y => y ≤ L.toNat) (fun y => L.toNat - y) (0) slr ?_ ?_ ?_ ?_
       ·exact Nat.zero_le _
       ·exact slr
       ·exact fun w hw => by rw [List.take_zero, List.nil_append, Nat.sub_zero, List.map_replicate]; exact hw
       ·intro y hg2 _ hK31
        refine .sr fun _ hK32 => ?_
        refine .v (.lss rfl rfl) ?_
        refine .nt hK32 ?_
        refine .seq fun _ hK33 => ?_
        refine AK.condD rfl (fun hc4 => ?_) (fun hc4 => ?_)
        ·have hgy := hgo y (by omega) _ rfl
         refine .skip ?_
         refine AK.then_ (hK33 _ ?_)
         refine .seq fun _ hK34 => ?_
         refine .block ?_
         refine .sr fun _ hK35 => ?_
         refine .mv rfl (.as rfl (.nt hK35 ?_))
         refine .sr fun _ hK36 => ?_
         refine .mv rfl (.mv rfl (.mv rfl ?_))
         refine .v (.idxArrZ ar73 rfl rfl (by omega)) ?_
         refine .v (.loadBox on21 rfl bsp (c6_get (x := y) (by omega) (by omega) (by omega))) ?_
         refine .v (.convI (by kernel_rfl) un3 rfl (wrap_i64 (by omega))) ?_
         first | refine .v (.iN sl74 rfl rfl) ?_ | refine .v (.iK sl74 rfl rfl) ?_
         refine AK.store1e 10 rfl sz3 rfl rfl rfl rfl (by omega) (cs' := ((((finR L fl fd x.1).take y ++ [(fl.getD (x.1 * 6 + y) 0)]) ++ List.replicate (L.toNat - (y + 1)) 0).map (Value.int .i64))) (by exact fill_set (Value.int .i64) _ 0 (fl.getD (x.1 * 6 + y) 0) L.toNat y (by rw [List.length_take, finR_len]; omega) (by omega)) trivial ?_
         refine .nt hK36 ?_
         refine .sr fun _ hK37 => ?_
         refine .mv rfl ?_
         refine .v (.nilCheck rfl) ?_
         refine .v (.fieldAddr fd72_1 rfl) ?_
         refine .v (.loadBox on70 rfl bsp rfl) ?_
         refine .mv rfl ?_
         first | refine .v (.iN sl70 rfl rfl) ?_ | refine .v (.iK sl70 rfl rfl) ?_
         refine .v (.loadI on21 rfl rdp (by omega)) ?_
         refine .v (.geq rfl rfl) ?_
         refine .nt hK37 ?_
         refine AK.condD rfl (fun hc5 => ?_) (fun hc5 => ?_)
         ·refine AK.region ?_
          refine .mv rfl (.mv rfl (.mv rfl ?_))
          first | refine .v (.iN sl74 rfl rfl) ?_ | refine .v (.iK sl74 rfl rfl) ?_
          refine AK.store1e 10 rfl sz3 rfl rfl rfl rfl (by omega) (cs' := ((((finR L fl fd x.1).take y ++ [(x.1 : Int)]) ++ List.replicate (L.toNat - (y + 1)) 0).map (Value.int .i64))) (by exact set_mid (Value.int .i64) _ _ (fl.getD (x.1 * 6 + y) 0) (x.1 : Int) (by rw [List.length_take, finR_len]; omega)) trivial ?_
          refine .nil (.block_normal ?_)
          refine AK.then_ (hK34 _ ?_)
          refine AK.region ?_
          refine .v (.add rfl rfl (by omega)) ?_
          refine .mv rfl (.nil ?_)
          first | refine AK.then_ (hK31 _ _ (y + 1) (by omega) (by omega) (slr) (fun w hw => by rw [take_snocD 0 (finR L fl fd x.1) y (by rw [finR_len]; omega), finR_get (by omega), if_pos (show 0 ≤ fd.getD x.1 0 by omega)]; exact hw)) | refine AK.then_ (hK31 _ _ (y + 1) (by omega) (by omega) (slr) (fun w hw => by rw [take_snocD 0 (finR L fl fd x.1) y (by rw [finR_len]; omega), finR_get (by omega), if_neg (show ¬ 0 ≤ fd.getD x.1 0 by omega)]; exact hw))
         ·refine .skip (.block_normal ?_)
          refine AK.then_ (hK34 _ ?_)
          refine AK.region ?_
          refine .v (.add rfl rfl (by omega)) ?_
          refine .mv rfl (.nil ?_)
          first | refine AK.then_ (hK31 _ _ (y + 1) (by omega) (by omega) (slr) (fun w hw => by rw [take_snocD 0 (finR L fl fd x.1) y (by rw [finR_len]; omega), finR_get (by omega), if_pos (show 0 ≤ fd.getD x.1 0 by omega)]; exact hw)) | refine AK.then_ (hK31 _ _ (y + 1) (by omega) (by omega) (slr) (fun w hw => by rw [take_snocD 0 (finR L fl fd x.1) y (by rw [finR_len]; omega), finR_get (by omega), if_neg (show ¬ 0 ≤ fd.getD x.1 0 by omega)]; exact hw))
        ·refine .exit (.then_exit (.then_exit (.block_exit ?_)))
         refine AK.then_ (hK29 _ ?_)
         refine .seq fun _ hK38 => ?_
         refine AK.joinK (X := Value) [(1, _), (4, _), (11, _), (12, _), (15, _), (55, _), (56, _), (57, _)] (fun z => []) (fun z => [box bx4 36 4 [.int .i64 0, .int .i64 0, .slice none 0 0, .slice none 0 0], row mv 9 1 rs.length ((lfs rs).map sv), box bf 72 2 [vn, vf], row vn 73 6 N.length (fl.map (Value.int .i32)), row vf 21 1 N.length (fd.map (Value.int .i32)), box bx12 36 4 [.int .i64 L, .int .i64 0, z, x.2.2.1], row z 4 1 (x.1 + 1) (((finD L fl fd).fin.take x.1).map Value.bool ++ [Value.bool (decide (fd.getD x.1 0 < 0))].flatMap (·.cells.toList)), row x.2.2.1 74 1 x.1 x.2.2.2, bigA (matG (Value.int .i64) 3 x.2.2.2 ((finD L fl fd).nx.take x.1)), box bx14 73 6 (c6 fl x.1), row mv1 3 1 L.toNat (((finR L fl fd x.1).take (y) ++ List.replicate (L.toNat - (y)) 0).map (Value.int .i64))]) (fun z => IsSl z) slr (fun _ hJ => ?_) (fun z hg => ?_)
         ·try (conv => enter [2, 2]; dsimp only [List.set_cons_zero, List.set_cons_succ, List.cons_append, List.nil_append])
          refine AK.held 13 mixed ?_
          refine HeldK.first 0 (fuel := 13) (listed' := (lb 14 1)) _ rfl krf krf rfl (Yl.fieldAddr fd36_2 rfl) trivial rfl ?_
          refine HeldK.first 1 (fuel := 12) (listed' := (lb 14 3)) _ rfl krf krf rfl (Yl.loadBox on33 rfl bsp rfl) trivial rfl ?_
          refine HeldK.first 2 (fuel := 11) (listed' := (lb 14 7)) _ rfl krf krf rfl (Yl.move rfl) trivial rfl ?_
          refine HeldK.first 3 (fuel := 10) (listed' := (lb 14 15)) _ rfl krf krf rfl (Yl.nilCheck rfl) trivial rfl ?_
          refine HeldK.first 4 (fuel := 9) (listed' := (lb 14 31)) _ rfl krf krf rfl (Yl.fieldAddr fd72_1 rfl) trivial rfl ?_
          refine HeldK.first 5 (fuel := 8) (listed' := (lb 14 63)) _ rfl krf krf rfl (Yl.loadBox on70 rfl bsp rfl) trivial rfl ?_
          refine HeldK.first 6 (fuel := 7) (listed' := (lb 14 127)) _ rfl krf krf rfl (Yl.move rfl) trivial rfl ?_
          first | refine HeldK.first 7 (fuel := 6) (listed' := (lb 14 255)) _ rfl krf krf rfl (.iN sl70 rfl rfl) trivial rfl ?_ | refine HeldK.first 7 (fuel := 6) (listed' := (lb 14 255)) _ rfl krf krf rfl (.iK sl70 rfl rfl) trivial rfl ?_
          refine HeldK.first 8 (fuel := 5) (listed' := (lb 14 511)) _ rfl krf krf rfl (Yl.loadI on21 rfl rdp (by omega)) trivial rfl ?_
          refine HeldK.first 9 (fuel := 4) (listed' := (lb 14 1023)) _ rfl krf krf rfl (Yl.lss rfl rfl) trivial rfl ?_
          refine HeldK.one 10 (fuel := 3) (listed' := (lb 14 2047)) krf rfl krf ?_
          refine AK.lit (xs := [.tmp 98]) sl33 el4 rfl rfl rfl (by intro a ha; simp at ha; subst ha; rfl) (by decide) (by decide) trivial rfl (fun t2 => ?_)
          refine .nil ?_
          try (conv => enter [2, 2]; dsimp only [List.set_cons_zero, List.set_cons_succ, List.cons_append, List.nil_append])
          refine HeldK.back Go.Sx.hle ?_
          refine HeldK.one 11 (fuel := 2) (listed' := (lb 14 4095)) krf rfl krf ?_
          refine AK.appendH 6 rfl sl33 el4 rfl (by decide) rfl rfl rfl rdp oneP (by omega) (by omega) trivial rfl (fun vf2 hf2 => ?_)
          refine .nil ?_
          try (conv => enter [2, 2]; dsimp only [List.set_cons_zero, List.set_cons_succ, List.cons_append, List.nil_append])
          refine HeldK.back Go.Sx.hle ?_
          refine HeldK.first 12 (fuel := 1) (listed' := (lb 14 8191)) _ rfl krf krf rfl (Yl.fieldAddr fd36_2 rfl) trivial rfl ?_
          refine HeldK.one 13 (fuel := 0) (listed' := (lb 14 16383)) krf rfl krf ?_
          refine AK.storeBox 5 (us := [vf2]) (cs' := [.int .i64 L, .int .i64 0, vf2, x.2.2.1]) rfl sz33 rfl rfl (by rw [IsSl.cells (by assumption)]) rfl oneP (Nat.le_of_ble_eq_true rfl) rfl trivial ?_
          refine .nil ?_
          try (conv => enter [2, 2]; dsimp only [List.set_cons_zero, List.set_cons_succ, List.cons_append, List.nil_append])
          refine HeldK.backN 14 krf rfl krf ?_
          refine .nil ?_
          refine AK.fromQn ?_
          exact hJ _ _ (vf2) hf2 (slr) (fun w hw => by first | exact hw.pickLe [0, 1, 2, 3, 4, 5, 6, 7, 8, 9, 10] (by decide) pkl)
         ·skip
          refine AK.then_ (hK38 _ ?_)
          refine AK.region ?_
          refine .v (.fieldAddr fd36_3 rfl) ?_
          refine .v (.loadBox on34 rfl bsp rfl) ?_
          refine .mv rfl ?_
          refine AK.append1 7 rfl sl34 el74 rfl (by decide) rfl (by intro k hk; cases hk; rfl) (by rw [smv1.cells]; rfl) (by rw [smv1.cells]; exact one'_cons smv1.one one'_nil) (by omega) (by omega) (by decide) rfl rfl (fun vn2 _ hn2 => ?_)
          refine .v (.fieldAddr fd36_3 rfl) ?_
          refine AK.storeBox 5 (us := [vn2]) (cs' := [.int .i64 L, .int .i64 0, z, vn2]) rfl sz34 rfl rfl (by rw [IsSl.cells (by assumption)]) rfl oneP (Nat.le_of_ble_eq_true rfl) rfl trivial ?_
          refine .nil (.block_normal ?_)
          refine AK.then_ (hK26 _ ?_)
          refine AK.region ?_
          refine .v (.add rfl rfl (by omega)) ?_
          refine .mv rfl (.nil ?_)
          refine AK.then_ (hK23 _ _ ((x.1 + 1, z, vn2, x.2.2.2 ++ [mv1])) ⟨by dsimp only; omega, by dsimp only; rw [List.length_append, hg1.2.1]; rfl, hg, hn2⟩ (by dsimp only; omega) (slr) (fun w hw => by
  dsimp only
  have e0 : y = L.toNat := (by omega)
  rw [finD_takeF (by omega), finD_takeN (by omega), matG_snoc (by rw [List.length_take, hg1.2.1]; omega), finR_len, List.map_append]
  rw [e0, Nat.sub_self, List.replicate_zero, List.append_nil, show (finR L fl fd x.1).take L.toNat = finR L fl fd x.1 from List.take_of_length_le (by rw [finR_len]; exact Nat.le_refl _)] at hw
  rw [show mv1.cells.toList = [mv1] by simp [smv1.cells]] at hw
  exact HW.absorb (own := [_, _, _, _, _, _, _, _, _]) 8 rfl (hw.pick [0, 1, 2, 3, 4, 5, 6, 7, 8, 10] (by decide) rfl rfl)))
      ·have hx : x.1 = fd.length := (by omega)
       have hwl : x.2.2.2.length = (finD L fl fd).nx.length := (by rw [hg1.2.1]; omega)
       have hmv : MinV (finD L fl fd) = minD (finD L fl fd) := if_pos hvd
       refine AK.own' [box bx4 36 4 [.int .i64 0, .int .i64 0, .slice none 0 0, .slice none 0 0], row mv 9 1 rs.length ((lfs rs).map sv), box bf 72 2 [vn, vf], row vn 73 6 N.length (fl.map (Value.int .i32)), row vf 21 1 N.length (fd.map (Value.int .i32)), box bx12 36 4 [.int .i64 L, .int .i64 0, x.2.1, x.2.2.1], row x.2.1 4 1 (finD L fl fd).fin.length ((finD L fl fd).fin.map Value.bool), row x.2.2.1 74 1 (finD L fl fd).nx.length x.2.2.2, bigA (matG (Value.int .i64) 3 x.2.2.2 (finD L fl fd).nx)] (fun w hw => by rw [hx] at hw; rw [hnl, hfl2]; rw [List.take_of_length_le (by omega), List.take_of_length_le (by omega)] at hw; exact hw) ?_
       refine .exit (.then_exit (.then_exit (.block_exit ?_)))
       refine AK.then_ (hK21 _ ?_)
       refine .sr fun _ hK39 => ?_
       refine .v (.loadBoxG ag36 rfl bsp rfl rfl) ?_
       refine AK.call co43 rfl (fun w hw => s_min w _ (finD L fl fd) (RdD.own 6 hw hwl rfl rfl rfl)) trivial rfl ?_
       rintro r o ⟨mF, mN, mrs, rfl, hmrs, smF, smN, rfl⟩
       rw [hmv] at hmrs
       rw [hmv]
       refine AK.storeBox 0 (us := [.int .i64 (minD (finD L fl fd)).L, .int .i64 (minD (finD L fl fd)).s, mF, mN]) (cs' := [.int .i64 (minD (finD L fl fd)).L, .int .i64 (minD (finD L fl fd)).s, mF, mN]) rfl sz36 rfl rfl rfl rfl oneP (Nat.le_of_ble_eq_true rfl) rfl trivial ?_
       refine .as rfl (.nt hK39 (.ret ?_))
       refine AK.retG [.cell 4 36, .tmp 5] rfl (.cons (.cell ag36 rfl bsp rfl rfl) (.cons (.tmp rfl) (.nil))) (fun w hw => ⟨_, _, ?_, rfl, Ret.of (hw.pick [9, 10, 11] (by decide) rfl rfl)⟩)
       exact ⟨minD (finD L fl fd), 0, mF, mN, mrs, .inr (.inr ⟨hE, by omega, rfl, (finD L fl fd), hvd, rfl, rfl, finD_irr hF hV hN5 hV.l⟩), rfl, hmrs, smF, smN, rfl⟩

end Go.Proofs.Ytaeojcaidcjnaaa
